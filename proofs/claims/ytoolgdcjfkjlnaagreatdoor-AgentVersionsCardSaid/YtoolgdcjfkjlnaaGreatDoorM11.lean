/- GreatDoorM11. -/
import Derived.Test.YtoolgdcjfkjlnaaGreatDoorM9
import Derived.Test.YtoolgdcjfkjlnaaGreatDoorM10
set_option maxHeartbeats 2000000
namespace Go.Proofs.YtoolgdcjfkjlnaaGreatDoor
section
open Go.RowKit
def qL (x5:List UInt8):Option ((List UInt8)×Int):=
  some (x5,0)
def mR (a0:SState) (k490:(List UInt8)→Option ((List UInt8)×Int)):Nat→(List UInt8)→Int→Option ((List UInt8)×Int)
  |0,_,_=>none
  |m4+1,x6,x7=>
   bif decide (x7<(a0.pods.length:Int)) then
     bO (idx a0.pods x7) fun v8=>
     bO (ED v8.pod) fun v9=>
     bO (bM x6 [u8 v8.phase]) fun v10=>
     bO (bM v10 v9.1) fun v11=>
     (mR a0 k490 m4) v11 (w64 (x7+1))
   else
     k490 x6
def qK (a0:SState) (x2:List UInt8) (x3:Int):Option ((List UInt8)×Int):=
  bO (bM x2 [u8 x3,u8 (a0.pods.length:Int)]) fun v4=>
  mR a0 qL aT v4 0
def qO (a0:SState) (x2:List UInt8) (x15:Int) (x16:Int):Option ((List UInt8)×Int):=
  bif decide ((w64 (x16+1))<3) then none else
  qK a0 x2 x15
def qN (a0:SState) (x2:List UInt8) (x13:Int) (x14:Int):Option ((List UInt8)×Int):=
  bif decide ((w64 (x14+1))<3) then
    bO (idx [a0.on.a,a0.on.b,a0.on.c] (w64 (x14+1))) fun v17=>
    bif v17 then
      bO (shO true .i64 1 (w64 (x14+1))) fun v18=>
      qO a0 x2 (w64 (BitVec.ofInt 64 x13|||BitVec.ofInt 64 v18).toNat) (w64 (x14+1))
    else
      qO a0 x2 x13 (w64 (x14+1))
  else
    qK a0 x2 x13
def qM (a0:SState) (x2:List UInt8) (x12:Int):Option ((List UInt8)×Int):=
  bif a0.on.b then
    bO (shO true .i64 1 (w64 ((0:Int)+1))) fun v19=>
    qN a0 x2 (w64 (BitVec.ofInt 64 x12|||BitVec.ofInt 64 v19).toNat) (w64 ((0:Int)+1))
  else
    qN a0 x2 x12 (w64 ((0:Int)+1))
def qJ (a0:SState) (x2:List UInt8):Option ((List UInt8)×Int):=
  bif a0.on.a then
    bO (shO true .i64 1 0) fun v20=>
    qM a0 x2 (w64 (BitVec.ofInt 64 0|||BitVec.ofInt 64 v20).toNat)
  else
    qM a0 x2 0
def mS (a0:SState) (k890:(List UInt8)→Option ((List UInt8)×Int)):Nat→(List UInt8)→Int→Option ((List UInt8)×Int)
  |0,_,_=>none
  |m8+1,x21,x22=>
   bif decide (x22≥0) then
     bO (shO false .i64 a0.round x22) fun v23=>
     bO (bM x21 [u8 v23]) fun v24=>
     (mS a0 k890 m8) v24 (w64 (x22-8))
   else
     k890 x21
def BD (a0:SState):Option ((List UInt8)×Int):=
  bO (r4 a0) fun v1=>
  bif !v1 then none else
  mS a0 (qJ a0) aT ([]:List UInt8) 56
theorem LF {a0:SState} {r:(List UInt8)×Int} (h:BD a0=some r):aI Tryz.prog 77 [e9 a0] (.tuple [.list true 5 (r.1.map zU8),zI r.2]):=by
  refine aK Tryz.func77 rfl rfl rfl rfl fun base=>?_
  unfold BD at h
  refine srd 3 rfl [1] [1] rfl (aB (aB (aA (rn 1 rfl ?_))))
  obtain ⟨v1,hv1,h⟩:=bI h
  refine aP Tryz.call96 (AH hv1) rfl ?_
  refine rn 1 rfl (aC.done [1,15] [1] rfl (aD h rfl (fun h=>?_) (fun h=>?_)))
  ·cases h
  refine aE (srd 1 rfl [1,4] [1] rfl (aS (fun e=>∃x2,e=⟨[(1,[],.lptr 1 0),(4,[],.list true 5 (x2.map zU8))],[],[(1,[zI a0.round,.list false 83 (a0.pods.map aN),zB a0.on.a,zB a0.on.b,zB a0.on.c])],[],base⟩∧qJ a0 x2=some r) ?_ ?_))
  ·refine srd 1 rfl [1,4,5] [1] rfl (aF (aU (fun m8 e=>∃x21 x22,e=⟨[(1,[],.lptr 1 0),(4,[],.list true 5 (x21.map zU8)),(5,[],zI x22)],[],[(1,[zI a0.round,.list false 83 (a0.pods.map aN),zB a0.on.a,zB a0.on.b,zB a0.on.c])],[],base⟩∧mS a0 (qJ a0) m8 x21 x22=some r) aT ⟨_,_,rfl,h⟩ ?_ ?_))
   ·rintro m8 _ ⟨x21,x22,rfl,h⟩
    rw [mS] at h
    refine aB (srd 2 rfl [1,4,5,17] [1] rfl (aD h rfl (fun h=>?_) (fun h=>?_)))
    ·refine aE (aB (aF ?_))
     refine aA ?_
     obtain ⟨v23,hv23,h⟩:=bI h
     refine rh 4 [] [20] rfl trivial (rd (rSh hv23) ?_)
     refine rn 1 rfl (cU8 25 ?_)
     obtain ⟨v24,hv24,h⟩:=bI h
     refine rn 1 rfl (iG (f:=zU8) hv24 ?_)
     refine rh 1 [] [4] rfl trivial (aC.done [1,4,5] [1] rfl ?_)
     refine aA (rn 3 rfl (aC.done [1,4,5] [1] rfl ?_))
     exact ⟨_,_,rfl,h⟩
    refine aR [1,4] [1] rfl (CWp.exit ?_)
    exact ⟨_,rfl,h⟩
   rintro _ ⟨_,_,_,h⟩
   rw [mS] at h;cases h
  rintro _ ⟨x2,rfl,h⟩
  unfold qJ at h
  refine srd 1 rfl [1,4,6] [1] rfl (aS (fun e=>∃x3,e=⟨[(1,[],.lptr 1 0),(4,[],.list true 5 (x2.map zU8)),(6,[],zI x3)],[],[(1,[zI a0.round,.list false 83 (a0.pods.map aN),zB a0.on.a,zB a0.on.b,zB a0.on.c])],[],base⟩∧qK a0 x2 x3=some r) ?_ ?_)
  ·refine srd 3 rfl [1,4,6,29,30] [1] rfl (aF (d7 4 (crd (srd 1 rfl [1,4,6,29,30,31] [1] rfl (aB (bD rfl (by decide) ?_))))))
   refine aE (aS (fun e=>∃x12,e=⟨[(1,[],.lptr 1 0),(4,[],.list true 5 (x2.map zU8)),(6,[],zI x12),(29,[],.agg [zB a0.on.a,zB a0.on.b,zB a0.on.c]),(30,[],zI 0)],[],[(1,[zI a0.round,.list false 83 (a0.pods.map aN),zB a0.on.a,zB a0.on.b,zB a0.on.c])],[],base⟩∧qM a0 x2 x12=some r) ?_ ?_)
   ·refine aF (srd 4 rfl [1,4,6,7,8,29,30] [1] rfl (srd 1 rfl [1,4,6,7,29,30,34] [1] rfl (aD h rfl (fun h=>?_) (fun h=>?_))))
    ·refine aA ?_
     obtain ⟨v20,hv20,h⟩:=bI h
     refine rn 2 rfl (rd (rSh hv20) ?_)
     refine rn 2 rfl (aC.done [1,4,6,29,30] [1] rfl ?_)
     exact ⟨_,rfl,h⟩
    refine aR [1,4,6,29,30] [1] rfl (aE ?_)
    exact ⟨_,rfl,h⟩
   rintro _ ⟨x12,rfl,h⟩
   unfold qM at h
   refine aA (rn 2 rfl (aC.done [1,4,6,29,30] [1] rfl (crd (srd 1 rfl [1,4,6,29,30,31] [1] rfl (aB (bD rfl (by decide) ?_))))))
   refine aE (aS (fun e=>∃x13 x14,e=⟨[(1,[],.lptr 1 0),(4,[],.list true 5 (x2.map zU8)),(6,[],zI x13),(29,[],.agg [zB a0.on.a,zB a0.on.b,zB a0.on.c]),(30,[],zI x14)],[],[(1,[zI a0.round,.list false 83 (a0.pods.map aN),zB a0.on.a,zB a0.on.b,zB a0.on.c])],[],base⟩∧qN a0 x2 x13 x14=some r) ?_ ?_)
   ·refine aF (srd 4 rfl [1,4,6,7,8,29,30] [1] rfl (srd 1 rfl [1,4,6,7,29,30,34] [1] rfl (aD h rfl (fun h=>?_) (fun h=>?_))))
    ·refine aA ?_
     obtain ⟨v19,hv19,h⟩:=bI h
     refine rn 2 rfl (rd (rSh hv19) ?_)
     refine rn 2 rfl (aC.done [1,4,6,29,30] [1] rfl ?_)
     exact ⟨_,_,rfl,h⟩
    refine aR [1,4,6,29,30] [1] rfl (aE ?_)
    exact ⟨_,_,rfl,h⟩
   rintro _ ⟨x13,x14,rfl,h⟩
   unfold qN at h
   refine aA (rn 2 rfl (aC.done [1,4,6,29,30] [1] rfl (crd (srd 1 rfl [1,4,6,29,30,31] [1] rfl (aB (aD h rfl (fun h=>?_) (fun h=>?_)))))))
   ·refine aE (aS (fun e=>∃x15 x16,e=⟨[(1,[],.lptr 1 0),(4,[],.list true 5 (x2.map zU8)),(6,[],zI x15),(29,[],.agg [zB a0.on.a,zB a0.on.b,zB a0.on.c]),(30,[],zI x16)],[],[(1,[zI a0.round,.list false 83 (a0.pods.map aN),zB a0.on.a,zB a0.on.b,zB a0.on.c])],[],base⟩∧qO a0 x2 x15 x16=some r) ?_ ?_)
    ·refine aF (aB (aA ?_))
     obtain ⟨v17,hv17,h⟩:=bI h
     refine rn 1 rfl (rd (Q3 (f:=zB) (fun _=>⟨rfl,rfl,rfl⟩) hv17) ?_)
     refine rn 2 rfl (aC.done [1,4,6,7,8,29,30] [1] rfl (srd 1 rfl [1,4,6,7,29,30,34] [1] rfl (aD h rfl (fun h=>?_) (fun h=>?_))))
     ·refine aA ?_
      obtain ⟨v18,hv18,h⟩:=bI h
      refine rn 2 rfl (rd (rSh hv18) ?_)
      refine rn 2 rfl (aC.done [1,4,6,29,30] [1] rfl ?_)
      exact ⟨_,_,rfl,h⟩
     refine aR [1,4,6,29,30] [1] rfl (aE ?_)
     exact ⟨_,_,rfl,h⟩
    rintro _ ⟨x15,x16,rfl,h⟩
    unfold qO at h
    refine aA (rn 2 rfl (aC.done [1,4,6,29,30] [1] rfl (crd (srd 1 rfl [1,4,6,29,30,31] [1] rfl (aB (aD h rfl (fun h=>?_) (fun h=>?_)))))))
    ·cases h
    refine aR [1,4,6] [1] rfl (CWp.exit ?_)
    exact ⟨_,rfl,h⟩
   refine aR [1,4,6] [1] rfl (CWp.exit ?_)
   exact ⟨_,rfl,h⟩
  rintro _ ⟨x3,rfl,h⟩
  unfold qK at h
  refine aB (aA (rh 7 [a0.pods.length] [40] rfl ⟨List.length_map ..,trivial⟩ (cU8 42 ?_)))
  refine cU8 46 ?_
  obtain ⟨v4,hv4,h⟩:=bI h
  refine rn 1 rfl (iG (f:=zU8) hv4 ?_)
  refine rh 1 [] [4] rfl trivial (aC.done [1,4] [1] rfl (aS (fun e=>∃x5,e=⟨[(4,[],.list true 5 (x5.map zU8))],[],[],[],base⟩∧qL x5=some r) ?_ ?_))
  ·refine aB (aA (rh 4 [a0.pods.length] [] rfl ⟨List.length_map ..,trivial⟩ (aC.done [4,50,51,52] [] rfl (aF (aU (fun m4 e=>∃x6 x7,e=⟨[(4,[],.list true 5 (x6.map zU8)),(50,[],.list false 83 (a0.pods.map aN)),(51,[],zI (a0.pods.length:Int)),(52,[],zI x7)],[],[],[],base⟩∧mR a0 (qL) m4 x6 x7=some r) aT ⟨_,_,rfl,h⟩ ?_ ?_)))))
   ·rintro m4 _ ⟨x6,x7,rfl,h⟩
    rw [mR] at h
    refine srd 1 rfl [4,50,51,52,53] [] rfl (aB (aD h rfl (fun h=>?_) (fun h=>?_)))
    ·refine aE (aB (aF (aB (aA ?_))))
     obtain ⟨v8,hv8,h⟩:=bI h
     refine rd (rIx hv8) ?_
     refine rn 3 rfl (aC.done [4,10,50,51,52] [10] rfl (aB (aA (rn 2 rfl ?_))))
     obtain ⟨v9,hv9,h⟩:=bI h
     refine aP Tryz.call132 (OL hv9) rfl ?_
     refine rh 5 [] [56,60,11] rfl trivial (aC.done [4,10,11,50,51,52] [10] rfl ?_)
     refine aA (rh 4 [] [62] rfl trivial (cU8 65 ?_))
     obtain ⟨v10,hv10,h⟩:=bI h
     refine rn 1 rfl (iG (f:=zU8) hv10 ?_)
     obtain ⟨v11,hv11,h⟩:=bI h
     refine rn 1 rfl (iG hv11 ?_)
     refine rh 1 [] [4] rfl trivial (aC.done [4,50,51,52] [] rfl ?_)
     refine aA (rn 2 rfl (aC.done [4,50,51,52] [] rfl ?_))
     exact ⟨_,_,rfl,h⟩
    refine aR [4] [] rfl (CWp.exit ?_)
    exact ⟨_,rfl,h⟩
   rintro _ ⟨_,_,_,h⟩
   rw [mR] at h;cases h
  rintro _ ⟨x5,rfl,h⟩
  unfold qL at h
  refine aB (aA (rh 3 [] [71,2] rfl trivial (aC.done [2,3] [] rfl ?_)))
  cases h;exact aJ ⟨.inl rfl,rfl,rfl⟩
def tI (a0:Int):Option (List UInt8):=
  some [u8 a0,u8 (lH .i64 a0 8),u8 (lH .i64 a0 16),u8 (lH .i64 a0 24)]
theorem BS {a0:Int} {r:List UInt8} (h:tI a0=some r):aI Tryz.prog 191 [zI a0] (.list true 5 (r.map zU8)):=by
  refine aK Tryz.func191 rfl rfl rfl rfl fun base=>?_
  unfold tI at h
  refine srd 1 rfl [0] [] rfl (aB (aA (rn 11 rfl (cU8 4 ?_))))
  refine cU8 7 ?_
  refine cU8 10 ?_
  refine cU8 13 ?_
  refine rh 2 [] [2] rfl trivial (aC.done [2] [] rfl ?_)
  cases h;exact aJ ⟨.inl rfl,rfl,rfl⟩
def gK (x5:List UInt8):Option (List UInt8):=
  some x5
def eS (a0:List (List UInt8)) (k390:(List UInt8)→Option (List UInt8)):Nat→(List UInt8)→Int→Option (List UInt8)
  |0,_,_=>none
  |m3+1,x7,x9=>
   bif decide (x9<(a0.length:Int)) then
     bO (idx a0 x9) fun v10=>
     bO (bM x7 v10) fun v11=>
     (eS a0 k390 m3) v11 (w64 (x9+1))
   else
     k390 x7
def gJ (a0:List (List UInt8)) (x2:Int):Option (List UInt8):=
  bO (QS x2) fun _v3=>
  eS a0 gK aT ([]:List UInt8) 0
def eT (a0:List (List UInt8)) (k490:Int→Option (List UInt8)):Nat→Int→Int→Option (List UInt8)
  |0,_,_=>none
  |m4+1,x13,x14=>
   bif decide (x13<(a0.length:Int)) then
     bO (idx a0 x13) fun v15=>
     bif decide ((w64 (x14+(v15.length:Int)))<0) then none else
     (eT a0 k490 m4) (w64 (x13+1)) (w64 (x14+(v15.length:Int)))
   else
     k490 x14
def nN (a0:List (List UInt8)):Option (List UInt8):=
  eT a0 (gJ a0) aT 0 0
theorem A9 {a0:List (List UInt8)} {r:List UInt8} (h:nN a0=some r):aI Tryz.prog 190 [.list false 23 (a0.map (fun (x:List UInt8)=> .list false 5 (x.map zU8)))] (.list false 5 (r.map zU8)):=by
  refine aK Tryz.func190 rfl rfl rfl rfl fun base=>?_
  unfold nN at h
  refine aB (aA (lJ (α:=UInt8) (sz:=1) 5 zU8 ?_))
  rintro m1
  refine aC.objs [] rfl ?_
  refine aC.done [0] [] rfl (srd 1 rfl [0,3] [] rfl (aS (fun e=>∃x2,e=⟨[(0,[],.list false 23 (a0.map (fun (x:List UInt8)=> .list false 5 (x.map zU8)))),(3,[],zI x2)],[],[],[],base⟩∧gJ a0 x2=some r) ?_ ?_))
  ·refine aB (aA (rh 3 [a0.length] [] rfl ⟨List.length_map ..,trivial⟩ (aC.done [0,3,9,10,11] [] rfl (aF (aU (fun m4 e=>∃x13 x14,e=⟨[(0,[],.list false 23 (a0.map (fun (x:List UInt8)=> .list false 5 (x.map zU8)))),(3,[],zI x14),(9,[],.list false 23 (a0.map (fun (x:List UInt8)=> .list false 5 (x.map zU8)))),(10,[],zI (a0.length:Int)),(11,[],zI x13)],[],[],[],base⟩∧eT a0 (gJ a0) m4 x13 x14=some r) aT ⟨_,_,rfl,h⟩ ?_ ?_)))))
   ·rintro m4 _ ⟨x13,x14,rfl,h⟩
    rw [eT] at h
    refine srd 1 rfl [0,3,9,10,11,12] [] rfl (aB (aD h rfl (fun h=>?_) (fun h=>?_)))
    ·refine aE (aB (aF (aB (aA ?_))))
     obtain ⟨v15,hv15,h⟩:=bI h
     refine rd (rIx hv15) ?_
     refine rn 2 rfl (aC.done [0,3,5,9,10,11] [] rfl (aB (aA (rh 5 [v15.length] [] rfl ⟨List.length_map ..,trivial⟩ (aC.done [0,3,9,10,11] [] rfl (srd 2 rfl [0,3,9,10,11,20] [] rfl (aD h rfl (fun h=>?_) (fun h=>?_))))))))
     ·cases h
     refine aE ?_
     refine aA (rn 2 rfl (aC.done [0,3,9,10,11] [] rfl ?_))
     exact ⟨_,_,rfl,h⟩
    refine aR [0,3] [] rfl (CWp.exit ?_)
    exact ⟨_,rfl,h⟩
   rintro _ ⟨_,_,_,h⟩
   rw [eT] at h;cases h
  rintro _ ⟨x2,rfl,h⟩
  unfold gJ at h
  refine aB (aA (rn 1 rfl ?_))
  obtain ⟨v3,hv3,h⟩:=bI h
  refine V1 [] Tryz.call239 (VF hv3) rfl rfl ?_
  rintro _ _ ⟨m4,sm4,rfl,rfl⟩
  refine rn 1 rfl (aC.done [0,6] [] rfl (aS (fun e=>∃(m6:Nat) (pm6 sm6:Slk 1) (x5:_),e=⟨[(6,[],hdM m6 pm6 x5 sm6)],[],[],[(m6,lob pm6 zU8 x5 sm6)],base⟩∧gK x5=some r) ?_ ?_))
  ·refine aB (aA (rh 3 [a0.length] [] rfl ⟨List.length_map ..,trivial⟩ (aC.done [6,25,26,27] [] rfl (aF (aU (fun m3 e=>∃(m8:Nat) (pm8 sm8:Slk 1) (x7:_) (x9:_),e=⟨[(6,[],hdM m8 pm8 x7 sm8),(25,[],.list false 23 (a0.map (fun (x:List UInt8)=> .list false 5 (x.map zU8)))),(26,[],zI (a0.length:Int)),(27,[],zI x9)],[],[],[(m8,lob pm8 zU8 x7 sm8)],base⟩∧eS a0 (gK) m3 x7 x9=some r) aT ⟨_,_,_,_,_,rfl,h⟩ ?_ ?_)))))
   ·rintro m3 _ ⟨m8,pm8,sm8,x7,x9,rfl,h⟩
    rw [eS] at h
    refine srd 1 rfl [6,25,26,27,28] [] rfl (aB (aD h rfl (fun h=>?_) (fun h=>?_)))
    ·refine aE (aB (aF (aB (aA ?_))))
     obtain ⟨v10,hv10,h⟩:=bI h
     refine rd (rIx hv10) ?_
     refine rn 2 rfl (aC.done [6,8,25,26,27] [] rfl ?_)
     refine aA ?_
     obtain ⟨v11,hv11,h⟩:=bI h
     refine rn 2 rfl (pS (f:=zU8) 0 (fun _=>⟨rfl,rfl,rfl⟩) hv11 ?_)
     rintro m12 pm12 sm12
     refine rn 1 rfl (aC.done [6,25,26,27] [] rfl ?_)
     refine aA (rn 2 rfl (aC.done [6,25,26,27] [] rfl ?_))
     exact ⟨_,_,_,_,_,rfl,h⟩
    refine aR [6] [] rfl (CWp.exit ?_)
    exact ⟨_,_,_,_,rfl,h⟩
   rintro _ ⟨_,_,_,_,_,_,h⟩
   rw [eS] at h;cases h
  rintro _ ⟨m6,pm6,sm6,x5,rfl,h⟩
  unfold gK at h
  refine srd 2 rfl [2] [] rfl (k7 (f:=zU8) (E:=5) 0 [2] [] (fun _=>⟨rfl,rfl,rfl⟩) ?_ (h1:=⟨rfl,trivial⟩) (h2:=trivial))
  cases h;exact aJ ⟨.inl rfl,rfl,rfl⟩
def A2 (a0:Int) (a1:List UInt8):Option ((List UInt8)×Int):=
  bif ((decide (a0<0))||(decide (a0≥4294967296)))||(decide ((a1.length:Int)>1048576)) then
    some (([]:List UInt8),1)
  else
    bO (tI a0) fun v1=>
    bO (tI (a1.length:Int)) fun v2=>
    bO (nN [[66,76,71,49],v1,v2,a1]) fun v3=>
    bO (AI v3) fun v4=>
    some (v4,0)
theorem K7 {a0:Int} {a1:List UInt8} {r:(List UInt8)×Int} (h:A2 a0 a1=some r):aI Tryz.prog 133 [zI a0,.list false 5 (a1.map zU8)] (.tuple [.list true 5 (r.1.map zU8),zI r.2]):=by
  refine aK Tryz.func133 rfl rfl rfl rfl fun base=>?_
  unfold A2 at h
  refine srd 2 rfl [0,1] [] rfl (aB (aB (aA (rh 11 [a1.length] [] rfl ⟨List.length_map ..,trivial⟩ (aC.done [0,1,16] [] rfl (aD h rfl (fun h=>?_) (fun h=>?_)))))))
  ·refine srd 2 rfl [4,5] [] rfl ?_
   cases h;exact aJ ⟨.inl rfl,rfl,rfl⟩
  refine aE (aB (aA (rn 1 rfl (WX ?_))))
  refine rn 1 rfl ?_
  obtain ⟨v1,hv1,h⟩:=bI h
  refine aP Tryz.call191 (BS hv1) rfl ?_
  refine rh 2 [a1.length] [] rfl ⟨List.length_map ..,trivial⟩ ?_
  obtain ⟨v2,hv2,h⟩:=bI h
  refine aP Tryz.call191 (BS hv2) rfl ?_
  refine rn 2 rfl ?_
  obtain ⟨v3,hv3,h⟩:=bI h
  refine aP Tryz.call190 (A9 hv3) rfl ?_
  obtain ⟨v4,hv4,h⟩:=bI h
  refine aP Tryz.call189 (FK hv4) rfl ?_
  refine rh 2 [] [4] rfl trivial (aC.done [4,5] [] rfl ?_)
  cases h;exact aJ ⟨.inl rfl,rfl,rfl⟩
def l6 (_a0:Unit) (_a0_0:SStore) (a0_0_0:SDisk) (a0_0_0_0:List ((List UInt8)×(List UInt8))) (a1:List UInt8):Option SDisk:=
  bO (mC a0_0_0 a0_0_0_0 (⟨1,[116,101,109,112],([]:List UInt8),a1⟩:SOp)) fun v1=>
  some v1.2
theorem zR {a0:Unit} {a0_0:SStore} {a0_0_0:SDisk} {a0_0_0_0:List ((List UInt8)×(List UInt8))} {a1:List UInt8} {i0 i0_0 i0_0_0 i0_0_0_0 i1:Nat} {r:SDisk} (h:l6 a0 a0_0 a0_0_0 a0_0_0_0 a1=some r):aO Tryz.prog 192 [.gptr i0 0,.gptr i1 0] [(i0,[.gptr i0_0 0]),(i0_0,[.gptr i0_0_0 0,zI a0_0.version]),(i0_0_0,[.gmap i0_0_0_0,.list true 69 (a0_0_0.open_.map bG)]),(i0_0_0_0,aV keS (fun (x:List UInt8)=> .list false 5 (x.map zU8)) a0_0_0_0),(i1,[.list false 5 (a1.map zU8)])] (fun v outs=>v= .tuple []∧outs=[(i0,[.gptr i0_0 0]),(i0_0,[.gptr i0_0_0 0,zI a0_0.version]),(i0_0_0,[.gmap i0_0_0_0,.list true 69 (r.open_.map bG)]),(i0_0_0_0,aV keS (fun (x:List UInt8)=> .list false 5 (x.map zU8)) a0_0_0_0),(i1,[.list false 5 (a1.map zU8)])]):=by
  refine a8 Tryz.func192 rfl rfl rfl rfl fun base=>?_
  unfold l6 at h
  refine b8 6 (by kernel_rfl) ?_
  refine b9 rfl [0] rfl (fun _ _=>rfl) ⟨rfl,trivial⟩ ?_
  refine cfq rfl rfl (fun _ _ _=>rfl) ?_
  refine cfq rfl rfl (fun _ _ _=>rfl) ?_
  refine b9 rfl [1] rfl (fun _ _=>rfl) ⟨rfl,trivial⟩ ?_
  refine b9 rfl [4] rfl (fun _ _=>rfl) ⟨rfl,trivial⟩ ?_
  refine cfq rfl rfl (fun _ _ _=>rfl) ?_
  refine b6.nil ⟨by kernel_rfl,?_⟩
  obtain ⟨v1,hv1,h⟩:=bI h
  refine bR [2,2] Tryz.call19 (sB hv1) rfl rfl ?_
  refine aC.objs [2,2,0,0,0] rfl ?_
  refine aC.done [] [] rfl ?_
  cases h
  exact ⟨.inr rfl,_,[0,0,0,0,0],_,_,rfl,rfl,rfl,rfl,rfl⟩
def l7 (_a0:Unit) (_a0_0:SStore) (a0_0_0:SDisk) (a0_0_0_0:List ((List UInt8)×(List UInt8))):Option SDisk:=
  bO (mC a0_0_0 a0_0_0_0 (⟨2,[116,101,109,112],[109,97,105,110],([]:List UInt8)⟩:SOp)) fun v1=>
  some v1.2
theorem zS {a0:Unit} {a0_0:SStore} {a0_0_0:SDisk} {a0_0_0_0:List ((List UInt8)×(List UInt8))} {i0 i0_0 i0_0_0 i0_0_0_0:Nat} {r:SDisk} (h:l7 a0 a0_0 a0_0_0 a0_0_0_0=some r):aO Tryz.prog 193 [.gptr i0 0] [(i0,[.gptr i0_0 0]),(i0_0,[.gptr i0_0_0 0,zI a0_0.version]),(i0_0_0,[.gmap i0_0_0_0,.list true 69 (a0_0_0.open_.map bG)]),(i0_0_0_0,aV keS (fun (x:List UInt8)=> .list false 5 (x.map zU8)) a0_0_0_0)] (fun v outs=>v= .tuple []∧outs=[(i0,[.gptr i0_0 0]),(i0_0,[.gptr i0_0_0 0,zI a0_0.version]),(i0_0_0,[.gmap i0_0_0_0,.list true 69 (r.open_.map bG)]),(i0_0_0_0,aV keS (fun (x:List UInt8)=> .list false 5 (x.map zU8)) a0_0_0_0)]):=by
  refine a8 Tryz.func193 rfl rfl rfl rfl fun base=>?_
  unfold l7 at h
  refine aA (rh 5 [0,1] [] rfl ⟨rfl,rfl,trivial⟩ ?_)
  obtain ⟨v1,hv1,h⟩:=bI h
  refine bR [2,2] Tryz.call19 (sB hv1) rfl rfl ?_
  refine aC.objs [2,2,0,0] rfl ?_
  refine aC.done [] [] rfl ?_
  cases h
  exact ⟨.inr rfl,_,[0,0,0,0],_,_,rfl,rfl,rfl,rfl,rfl⟩
def l8 (_a0:Unit) (a0_0:SStore) (a0_0_0:SDisk) (a0_0_0_0:List ((List UInt8)×(List UInt8))):Option ((List ((List UInt8)×(List UInt8)))×SStore×SDisk):=
  bO (jU a0_0_0 a0_0_0_0) fun v1=>
  some (v1.1,(⟨w64 (a0_0.version+1)⟩:SStore),v1.2)
theorem zT {a0:Unit} {a0_0:SStore} {a0_0_0:SDisk} {a0_0_0_0:List ((List UInt8)×(List UInt8))} {i0 i0_0 i0_0_0 i0_0_0_0:Nat} {r:(List ((List UInt8)×(List UInt8)))×SStore×SDisk} (h:l8 a0 a0_0 a0_0_0 a0_0_0_0=some r):aO Tryz.prog 194 [.gptr i0 0] [(i0,[.gptr i0_0 0]),(i0_0,[.gptr i0_0_0 0,zI a0_0.version]),(i0_0_0,[.gmap i0_0_0_0,.list true 69 (a0_0_0.open_.map bG)]),(i0_0_0_0,aV keS (fun (x:List UInt8)=> .list false 5 (x.map zU8)) a0_0_0_0)] (fun v outs=>∃(h0_:Nat),v= .tuple []∧outs=[(h0_,aV keS (fun (x:List UInt8)=> .list false 5 (x.map zU8)) r.1),(i0,[.gptr i0_0 0]),(i0_0,[.gptr i0_0_0 0,zI r.2.1.version]),(i0_0_0,[.gmap h0_,.list true 69 (r.2.2.open_.map bG)])]):=by
  refine a8 Tryz.func194 rfl rfl rfl rfl fun base=>?_
  unfold l8 at h
  refine aB (aA (rh 4 [0,1] [] rfl ⟨rfl,rfl,trivial⟩ ?_))
  obtain ⟨v1,hv1,h⟩:=bI h
  refine bL [2,2] Tryz.call22 (o0 hv1) rfl rfl ?_
  rintro _ _ ⟨o2,rfl,rfl⟩
  refine aC.objs [2,2,1,0] rfl ?_
  refine aC.done [0] [] rfl ?_
  refine aA (rh 8 [0,1,1] [] rfl ⟨rfl,rfl,rfl,trivial⟩ (aC.done [] [] rfl ?_))
  cases h
  exact ⟨.inr rfl,_,[3,0,0,0],_,_,rfl,rfl,rfl,o2,rfl,rfl⟩
def kJ (_a0:SStore) (_a0_0:SDisk) (_a0_0_0:List ((List UInt8)×(List UInt8))) (a1:List UInt8):Option (Unit×(List UInt8)):=
  some ((),a1)
theorem tB {a0:SStore} {a0_0:SDisk} {a0_0_0:List ((List UInt8)×(List UInt8))} {a1:List UInt8} {i0 i0_0 i0_0_0:Nat} {r:Unit×(List UInt8)} (h:kJ a0 a0_0 a0_0_0 a1=some r):aO Tryz.prog 134 [.gptr i0 0,.list false 5 (a1.map zU8)] [(i0,[.gptr i0_0 0,zI a0.version]),(i0_0,[.gmap i0_0_0,.list true 69 (a0_0.open_.map bG)]),(i0_0_0,aV keS (fun (x:List UInt8)=> .list false 5 (x.map zU8)) a0_0_0)] (fun v outs=>∃(h0_:Nat) (h1_:Nat),v= .list false 1 [.fn 192 [.gptr h0_ 0,.gptr h1_ 0],.fnm 22 [.gptr i0_0 0],.fn 193 [.gptr h0_ 0],.fn 194 [.gptr h0_ 0]]∧outs=[(h0_,[.gptr i0 0]),(h1_,[.list false 5 (r.2.map zU8)]),(i0,[.gptr i0_0 0,zI a0.version]),(i0_0,[.gmap i0_0_0,.list true 69 (a0_0.open_.map bG)]),(i0_0_0,aV keS (fun (x:List UInt8)=> .list false 5 (x.map zU8)) a0_0_0)]):=by
  refine a8 Tryz.func134 rfl rfl rfl rfl fun base=>?_
  unfold kJ at h
  refine aB (aA (uV ?_))
  rintro o1-
  refine uV ?_
  rintro o2-
  refine rn 1 rfl (aC.done [2,3] [] rfl (aB (aA (rd (rMk) ?_))))
  refine rh 4 [1,2] [] rfl ⟨rfl,rfl,trivial⟩ (rd (XQ) ?_)
  refine rd (rMk) ?_
  refine rd (rMk) ?_
  refine rn 2 rfl (aC.done [4] [] rfl (aJ ?_))
  cases h
  exact ⟨.inl rfl,_,[1,0,0,0,0],_,_,rfl,rfl,rfl,o1,o2,rfl,rfl⟩
def qX (a0:SStore) (a0_0:SDisk) (a0_0_0:List ((List UInt8)×(List UInt8))) (a1:List UInt8) (a2:Int):Option (Int×(List ((List UInt8)×(List UInt8)))×SStore×SDisk):=
  bO (A2 (w64 (a0.version+1)) a1) fun v1=>
  bif v1.2 !=0 then
    some (v1.2,a0_0_0,a0,a0_0)
  else
    bO (kJ a0 a0_0 a0_0_0 v1.1) fun v2=>
    bif (min (max a2 0) 4)==4 then
      bO (l6 () a0 a0_0 a0_0_0 v2.2) fun v5=>
      bO (jU v5 a0_0_0) fun v6=>
      bO (l7 () a0 v6.2 v6.1) fun v8=>
      bO (l8 () a0 v8 v6.1) fun v9=>
      some (0,v9.1,v9.2.1,v9.2.2)
    else
    none
theorem DI {a0:SStore} {a0_0:SDisk} {a0_0_0:List ((List UInt8)×(List UInt8))} {a1:List UInt8} {a2:Int} {i0 i0_0 i0_0_0:Nat} {r:Int×(List ((List UInt8)×(List UInt8)))×SStore×SDisk} (h:qX a0 a0_0 a0_0_0 a1 a2=some r):aO Tryz.prog 78 [.gptr i0 0,.list false 5 (a1.map zU8),zI a2] [(i0,[.gptr i0_0 0,zI a0.version]),(i0_0,[.gmap i0_0_0,.list true 69 (a0_0.open_.map bG)]),(i0_0_0,aV keS (fun (x:List UInt8)=> .list false 5 (x.map zU8)) a0_0_0)] (fun v outs=>∃(h0_:Nat),v=zI r.1∧outs=[(h0_,aV keS (fun (x:List UInt8)=> .list false 5 (x.map zU8)) r.2.1),(i0,[.gptr i0_0 0,zI r.2.2.1.version]),(i0_0,[.gmap h0_,.list true 69 (r.2.2.2.open_.map bG)])]):=by
  refine a8 Tryz.func78 rfl rfl rfl rfl fun base=>?_
  unfold qX at h
  refine srd 1 rfl [0,1,2] [] rfl (aB (aA (rh 6 [0] [] rfl ⟨rfl,trivial⟩ ?_)))
  obtain ⟨v1,hv1,h⟩:=bI h
  refine aP Tryz.call133 (K7 hv1) rfl ?_
  refine rh 5 [] [12,20,7] rfl trivial (aC.done [0,2,7,8] [] rfl (aB (srd 2 rfl [0,2,7,8,23] [] rfl (aD h rfl (fun h=>?_) (fun h=>?_)))))
  ·refine srd 2 rfl [6] [] rfl (aJ ?_)
   cases h
   exact ⟨.inl rfl,_,[2,0,0],_,_,rfl,rfl,rfl,i0_0_0,rfl,rfl⟩
  refine aE (aB (aA (rn 2 rfl ?_)))
  obtain ⟨v2,hv2,h⟩:=bI h
  refine bL [0,0,0] Tryz.call134 (tB hv2) rfl rfl ?_
  rintro _ _ ⟨o3,o4,rfl,rfl⟩
  refine rn 1 rfl (aC.objs [1,0,0,0,0] rfl ?_)
  refine aC.done [2,9] [] rfl (aB (aB (aA (rh 6 [4] [] rfl ⟨rfl,trivial⟩ (byB h (fun hz h=>?_) (fun _ h=>?_))))))
  ·refine cRe [33] [] (show zI (min (max a2 0) 4)=zI 4 from by rw [eq_of_beq hz]) ?_ ⟨rfl,trivial⟩ trivial
   refine rd (rPc (f:=fun x=>x) (show slO [.fn 192 [.gptr o3 0,.gptr o4 0],.fnm 22 [.gptr i0_0 0],.fn 193 [.gptr o3 0],.fn 194 [.gptr o3 0]] 0 4=some [.fn 192 [.gptr o3 0,.gptr o4 0],.fnm 22 [.gptr i0_0 0],.fn 193 [.gptr o3 0],.fn 194 [.gptr o3 0]] from rfl)) ?_
   refine rh 2 [4] [] rfl ⟨rfl,trivial⟩ (aC.done [34,35,36] [] rfl (aF (d7 5 (crd (srd 1 rfl [34,35,36,37] [] rfl (aB (bD rfl (by decide) ?_)))))))
   refine aE (aB (aF (aB (aA (rd (rIx (f:=fun x=>x) (show idx [.fn 192 [.gptr o3 0,.gptr o4 0],.fnm 22 [.gptr i0_0 0],.fn 193 [.gptr o3 0],.fn 194 [.gptr o3 0]] 0=some (.fn 192 [.gptr o3 0,.gptr o4 0]) from rfl)) ?_)))))
   refine rn 2 rfl (aC.done [11,34,35,36] [] rfl ?_)
   refine aA (rn 1 rfl ?_)
   obtain ⟨v5,hv5,h⟩:=bI h
   refine aC.objs [1,1,1,1,0] rfl ?_
   refine n0 Tryz.call192 (aO.frame (zR hv5) _) ?_
   rintro _ _ ⟨_,⟨rfl,rfl⟩,rfl⟩
   refine aC.objs [4,0,0,0,0] rfl ?_
   refine aC.done [34,35,36] [] rfl ?_
   refine aA (rn 2 rfl (aC.done [34,35,36] [] rfl (crd (srd 1 rfl [34,35,36,37] [] rfl (aB (bD rfl (by decide) ?_))))))
   refine aE (aB (aF (aB (aA (rd (rIx (f:=fun x=>x) (show idx [.fn 192 [.gptr o3 0,.gptr o4 0],.fnm 22 [.gptr i0_0 0],.fn 193 [.gptr o3 0],.fn 194 [.gptr o3 0]] 1=some (.fnm 22 [.gptr i0_0 0]) from rfl)) ?_)))))
   refine rn 2 rfl (aC.done [11,34,35,36] [] rfl ?_)
   refine aA (rn 1 rfl ?_)
   obtain ⟨v6,hv6,h⟩:=bI h
   refine aC.objs [3,3,0,0,0] rfl ?_
   refine V0 Tryz.call22 (aO.frame (o0 hv6) _) ?_
   rintro _ _ ⟨_,⟨o7,rfl,rfl⟩,rfl⟩
   refine aC.objs [2,2,2,1,0] rfl ?_
   refine aC.done [34,35,36] [] rfl ?_
   refine aA (rn 2 rfl (aC.done [34,35,36] [] rfl (crd (srd 1 rfl [34,35,36,37] [] rfl (aB (bD rfl (by decide) ?_))))))
   refine aE (aB (aF (aB (aA (rd (rIx (f:=fun x=>x) (show idx [.fn 192 [.gptr o3 0,.gptr o4 0],.fnm 22 [.gptr i0_0 0],.fn 193 [.gptr o3 0],.fn 194 [.gptr o3 0]] 2=some (.fn 193 [.gptr o3 0]) from rfl)) ?_)))))
   refine rn 2 rfl (aC.done [11,34,35,36] [] rfl ?_)
   refine aA (rn 1 rfl ?_)
   obtain ⟨v8,hv8,h⟩:=bI h
   refine aC.objs [1,1,1,1,0] rfl ?_
   refine n0 Tryz.call193 (aO.frame (zS hv8) _) ?_
   rintro _ _ ⟨_,⟨rfl,rfl⟩,rfl⟩
   refine aC.objs [4,0,0,0,0] rfl ?_
   refine aC.done [34,35,36] [] rfl ?_
   refine aA (rn 2 rfl (aC.done [34,35,36] [] rfl (crd (srd 1 rfl [34,35,36,37] [] rfl (aB (bD rfl (by decide) ?_))))))
   refine aE (aB (aF (aB (aA (rd (rIx (f:=fun x=>x) (show idx [.fn 192 [.gptr o3 0,.gptr o4 0],.fnm 22 [.gptr i0_0 0],.fn 193 [.gptr o3 0],.fn 194 [.gptr o3 0]] 3=some (.fn 194 [.gptr o3 0]) from rfl)) ?_)))))
   refine rn 2 rfl (aC.done [11,34,35,36] [] rfl ?_)
   refine aA (rn 1 rfl ?_)
   obtain ⟨v9,hv9,h⟩:=bI h
   refine aC.objs [1,1,1,1,0] rfl ?_
   refine n0 Tryz.call194 (aO.frame (zT hv9) _) ?_
   rintro _ _ ⟨_,⟨o10,rfl,rfl⟩,rfl⟩
   refine aC.objs [4,1,1,1,0] rfl ?_
   refine aC.done [34,35,36] [] rfl ?_
   refine aA (rn 2 rfl (aC.done [34,35,36] [] rfl (crd (srd 1 rfl [34,35,36,37] [] rfl (aB (dD rfl (by decide) ?_))))))
   refine CWp.exit (aB (aA (rn 1 rfl (aC.objs [2,2,2] rfl ?_))))
   refine aC.done [6] [] rfl (aJ ?_)
   cases h
   exact ⟨.inl rfl,_,[2,0,0],_,_,rfl,rfl,rfl,o10,rfl,rfl⟩
  cases h
def yK :Option Int:=
  bO (tG) fun v1=>
  bO (kJ (⟨0⟩:SStore) v1.1 v1.2 ([]:List UInt8)) fun _v5=>
  some 4
theorem IX {r:Int} (h:yK=some r):aI Tryz.prog 135 [] (zI r):=by
  refine aK Tryz.func135 rfl rfl rfl rfl fun base=>?_
  unfold yK at h
  refine srd 1 rfl [] [] rfl (aB (aA ?_))
  obtain ⟨v1,hv1,h⟩:=bI h
  refine bL [] Tryz.call17 (yN hv1) rfl rfl ?_
  rintro _ _ ⟨o2,o3,rfl,rfl⟩
  refine rn 1 rfl (uV ?_)
  rintro o4-
  obtain ⟨v5,hv5,h⟩:=bI h
  refine bL [0,0,0] Tryz.call134 (tB hv5) rfl rfl ?_
  rintro _ _ ⟨o6,o7,rfl,rfl⟩
  refine rh 2 [4] [] rfl ⟨rfl,trivial⟩ (aC.objs [] rfl ?_)
  refine aC.done [0] [] rfl ?_
  cases h;exact aJ ⟨.inl rfl,rfl,rfl⟩
def qY (a0:SStore) (a0_0:SDisk) (a0_0_0:List ((List UInt8)×(List UInt8))) (a1:List UInt8):Option (Int×(List ((List UInt8)×(List UInt8)))×SStore×SDisk):=
  bO (yK) fun v1=>
  bO (qX a0 a0_0 a0_0_0 a1 v1) fun v2=>
  some (v2.1,v2.2.1,v2.2.2.1,v2.2.2.2)
theorem DJ {a0:SStore} {a0_0:SDisk} {a0_0_0:List ((List UInt8)×(List UInt8))} {a1:List UInt8} {i0 i0_0 i0_0_0:Nat} {r:Int×(List ((List UInt8)×(List UInt8)))×SStore×SDisk} (h:qY a0 a0_0 a0_0_0 a1=some r):aO Tryz.prog 79 [.gptr i0 0,.list false 5 (a1.map zU8)] [(i0,[.gptr i0_0 0,zI a0.version]),(i0_0,[.gmap i0_0_0,.list true 69 (a0_0.open_.map bG)]),(i0_0_0,aV keS (fun (x:List UInt8)=> .list false 5 (x.map zU8)) a0_0_0)] (fun v outs=>∃(h0_:Nat),v=zI r.1∧outs=[(h0_,aV keS (fun (x:List UInt8)=> .list false 5 (x.map zU8)) r.2.1),(i0,[.gptr i0_0 0,zI r.2.2.1.version]),(i0_0,[.gmap h0_,.list true 69 (r.2.2.2.open_.map bG)])]):=by
  refine a8 Tryz.func79 rfl rfl rfl rfl fun base=>?_
  unfold qY at h
  refine srd 1 rfl [0,1] [] rfl (aB (aA (rn 2 rfl ?_)))
  obtain ⟨v1,hv1,h⟩:=bI h
  refine aP Tryz.call135 (IX hv1) rfl ?_
  obtain ⟨v2,hv2,h⟩:=bI h
  refine bL [0,0,0] Tryz.call78 (DI hv2) rfl rfl ?_
  rintro _ _ ⟨o3,rfl,rfl⟩
  refine rn 1 rfl (aC.objs [1,1,0] rfl ?_)
  refine aC.done [4] [] rfl (aJ ?_)
  cases h
  exact ⟨.inl rfl,_,[2,0,0],_,_,rfl,rfl,rfl,o3,rfl,rfl⟩
def kI (a0:SAgent) (_a0_0:SWorld) (a0_1:SStore) (a0_1_0:SDisk) (a0_1_0_0:List ((List UInt8)×(List UInt8))) (a1:List SEvent):Option ((List SEvent)×Int×(List ((List UInt8)×(List UInt8)))×SAgent×SStore×SDisk):=
  bO (BD a0.state) fun v1=>
  bif a0.fuse !=(-1) then none else
  bO (qY a0_1 a0_1_0 a0_1_0_0 v1.1) fun v2=>
  bif v2.1 !=0 then
    some (([]:List SEvent),6,v2.2.1,(⟨a0.c,a0.state,a0.since,a0.calm,a0.sample,a0.fresh,a0.fuse,true⟩:SAgent),v2.2.2.1,v2.2.2.2)
  else
    some (a1,0,v2.2.1,a0,v2.2.2.1,v2.2.2.2)
theorem tA {a0:SAgent} {a0_0:SWorld} {a0_1:SStore} {a0_1_0:SDisk} {a0_1_0_0:List ((List UInt8)×(List UInt8))} {a1:List SEvent} {i0 i0_0 i0_1 i0_1_0 i0_1_0_0:Nat} {i0_0m2:Nat} {pi0_0m2 si0_0m2:Slk 4} {r:(List SEvent)×Int×(List ((List UInt8)×(List UInt8)))×SAgent×SStore×SDisk} (h:kI a0 a0_0 a0_1 a0_1_0 a0_1_0_0 a1=some r):aO Tryz.prog 30 [.gptr i0 0,.list false 45 (a1.map bB)] [(i0,[zI a0.c.capacity.a,zI a0.c.capacity.b,zI a0.c.capacity.c,zI a0.c.allocatable.a,zI a0.c.allocatable.b,zI a0.c.allocatable.c,.list false 102 (a0.c.thresholds.map aL),zI a0.c.period,zI a0.c.retries,zI a0.c.maxAge,zI a0.c.dead,.gptr i0_0 0,.gptr i0_1 0,zI a0.state.round,.list false 83 (a0.state.pods.map aN),zB a0.state.on.a,zB a0.state.on.b,zB a0.state.on.c,.list false 3 (a0.since.map zI),zI a0.calm.a,zI a0.calm.b,zI a0.calm.c,zI a0.sample.time,zI a0.sample.avail.a,zI a0.sample.avail.b,zI a0.sample.avail.c,.list false 280 (a0.sample.use.map bC),zB a0.fresh,zI a0.fuse,zB a0.dead]),(i0_0,[.list false 4 (a0_0.queue.l.map zB),zI a0_0.retries,hdM i0_0m2 pi0_0m2 a0_0.boxes si0_0m2,.list false 150 (a0_0.images.map aQ)]),(i0_0m2,lob pi0_0m2 aG a0_0.boxes si0_0m2),(i0_1,[.gptr i0_1_0 0,zI a0_1.version]),(i0_1_0,[.gmap i0_1_0_0,.list true 69 (a0_1_0.open_.map bG)]),(i0_1_0_0,aV keS (fun (x:List UInt8)=> .list false 5 (x.map zU8)) a0_1_0_0)] (fun v outs=>∃(h0_:Nat),v= .tuple [.list false 45 (r.1.map bB),zI r.2.1]∧outs=[(h0_,aV keS (fun (x:List UInt8)=> .list false 5 (x.map zU8)) r.2.2.1),(i0,[zI r.2.2.2.1.c.capacity.a,zI r.2.2.2.1.c.capacity.b,zI r.2.2.2.1.c.capacity.c,zI r.2.2.2.1.c.allocatable.a,zI r.2.2.2.1.c.allocatable.b,zI r.2.2.2.1.c.allocatable.c,.list false 102 (r.2.2.2.1.c.thresholds.map aL),zI r.2.2.2.1.c.period,zI r.2.2.2.1.c.retries,zI r.2.2.2.1.c.maxAge,zI r.2.2.2.1.c.dead,.gptr i0_0 0,.gptr i0_1 0,zI r.2.2.2.1.state.round,.list false 83 (r.2.2.2.1.state.pods.map aN),zB r.2.2.2.1.state.on.a,zB r.2.2.2.1.state.on.b,zB r.2.2.2.1.state.on.c,.list false 3 (r.2.2.2.1.since.map zI),zI r.2.2.2.1.calm.a,zI r.2.2.2.1.calm.b,zI r.2.2.2.1.calm.c,zI r.2.2.2.1.sample.time,zI r.2.2.2.1.sample.avail.a,zI r.2.2.2.1.sample.avail.b,zI r.2.2.2.1.sample.avail.c,.list false 280 (r.2.2.2.1.sample.use.map bC),zB r.2.2.2.1.fresh,zI r.2.2.2.1.fuse,zB r.2.2.2.1.dead]),(i0_0,[.list false 4 (a0_0.queue.l.map zB),zI a0_0.retries,hdM i0_0m2 pi0_0m2 a0_0.boxes si0_0m2,.list false 150 (a0_0.images.map aQ)]),(i0_0m2,lob pi0_0m2 aG a0_0.boxes si0_0m2),(i0_1,[.gptr i0_1_0 0,zI r.2.2.2.2.1.version]),(i0_1_0,[.gmap h0_,.list true 69 (r.2.2.2.2.2.open_.map bG)])]):=by
  refine a8 Tryz.func30 rfl rfl rfl rfl fun base=>?_
  unfold kI at h
  refine srd 2 rfl [0,1] [] rfl (aB (aA (rh 4 [0] [] rfl ⟨rfl,trivial⟩ ?_)))
  obtain ⟨v1,hv1,h⟩:=bI h
  refine aP Tryz.call77 (LF hv1) rfl ?_
  refine rh 5 [] [8,14,6] rfl trivial (aC.done [0,1,6] [] rfl (aB (aB (aA (rh 5 [0] [] rfl ⟨rfl,trivial⟩ (aC.done [0,1,6,20] [] rfl (aD h rfl (fun h=>?_) (fun h=>?_))))))))
  ·cases h
  refine aE (aB (aB (aA (rh 5 [0] [] rfl ⟨rfl,trivial⟩ ?_))))
  obtain ⟨v2,hv2,h⟩:=bI h
  refine bL [3,3,3] Tryz.call79 (DJ hv2) rfl rfl ?_
  rintro _ _ ⟨o3,rfl,rfl⟩
  refine rn 1 rfl (aC.objs [3,3,3,1,1,0] rfl ?_)
  refine aC.done [0,1,40] [] rfl (aD h rfl (fun h=>?_) (fun h=>?_))
  ·refine aB (aA (rh 4 [0] [] rfl ⟨rfl,trivial⟩ (aC.done [] [] rfl (srd 2 rfl [4,5] [] rfl (ER 4 ?_)))))
   refine aJ ?_
   cases h
   exact ⟨.inl rfl,_,[5,0,0,0,0,0],_,_,rfl,rfl,rfl,o3,rfl,rfl⟩
  refine aE (srd 3 rfl [4,5] [] rfl (aJ ?_))
  cases h
  exact ⟨.inl rfl,_,[5,0,0,0,0,0],_,_,rfl,rfl,rfl,o3,rfl,rfl⟩
end
section
open Go.RowKit
def iD (a0:SAgent) (a0_0:SWorld) (a0_1:SStore) (a0_1_0:SDisk) (a0_1_0_0:List ((List UInt8)×(List UInt8))) (a1:SPod):Option ((List SEvent)×Int×(List ((List UInt8)×(List UInt8)))×SAgent×SStore×SDisk):=
  bO (pC a0.state (⟨a1,1⟩:SEntry)) fun v2=>
  bO (bM ([]:List SEvent) [(⟨1,a1.id,0,0⟩:SEvent)]) fun v3=>
  bO (kI (⟨a0.c,v2,a0.since,a0.calm,a0.sample,a0.fresh,a0.fuse,a0.dead⟩:SAgent) a0_0 a0_1 a0_1_0 a0_1_0_0 v3) fun v4=>
  some (v4.1,v4.2.1,v4.2.2.1,v4.2.2.2.1,v4.2.2.2.2.1,v4.2.2.2.2.2)
def iE (v1:SVerdict×Int) (k290:Option ((List SEvent)×Int×(List ((List UInt8)×(List UInt8)))×SAgent×SStore×SDisk)):Nat→Option ((List SEvent)×Int×(List ((List UInt8)×(List UInt8)))×SAgent×SStore×SDisk)
  |0=>none
  |_m2+1=>
   bif decide (0<(v1.1.go_.length:Int)) then none else
   k290
def j9 (a0:SAgent) (a0_0:SWorld) (a0_1:SStore) (a0_1_0:SDisk) (a0_1_0_0:List ((List UInt8)×(List UInt8))) (a1:SPod):Option ((List SEvent)×Int×(List ((List UInt8)×(List UInt8)))×SAgent×SStore×SDisk):=
  bif a0.dead then none else
  bO (u4 a0.c a0.state.pods a0.state.on a1) fun v1=>
  bif v1.2 !=0 then none else
  bif (v1.1.kind==3)||(v1.1.kind==4) then none else
  iE v1 (iD a0 a0_0 a0_1 a0_1_0 a0_1_0_0 a1) aT
theorem sT {a0:SAgent} {a0_0:SWorld} {a0_1:SStore} {a0_1_0:SDisk} {a0_1_0_0:List ((List UInt8)×(List UInt8))} {a1:SPod} {i0 i0_0 i0_1 i0_1_0 i0_1_0_0:Nat} {i0_0m2:Nat} {pi0_0m2 si0_0m2:Slk 4} {r:(List SEvent)×Int×(List ((List UInt8)×(List UInt8)))×SAgent×SStore×SDisk} (h:j9 a0 a0_0 a0_1 a0_1_0 a0_1_0_0 a1=some r):aO Tryz.prog 9 [.gptr i0 0,cI a1] [(i0,[zI a0.c.capacity.a,zI a0.c.capacity.b,zI a0.c.capacity.c,zI a0.c.allocatable.a,zI a0.c.allocatable.b,zI a0.c.allocatable.c,.list false 102 (a0.c.thresholds.map aL),zI a0.c.period,zI a0.c.retries,zI a0.c.maxAge,zI a0.c.dead,.gptr i0_0 0,.gptr i0_1 0,zI a0.state.round,.list false 83 (a0.state.pods.map aN),zB a0.state.on.a,zB a0.state.on.b,zB a0.state.on.c,.list false 3 (a0.since.map zI),zI a0.calm.a,zI a0.calm.b,zI a0.calm.c,zI a0.sample.time,zI a0.sample.avail.a,zI a0.sample.avail.b,zI a0.sample.avail.c,.list false 280 (a0.sample.use.map bC),zB a0.fresh,zI a0.fuse,zB a0.dead]),(i0_0,[.list false 4 (a0_0.queue.l.map zB),zI a0_0.retries,hdM i0_0m2 pi0_0m2 a0_0.boxes si0_0m2,.list false 150 (a0_0.images.map aQ)]),(i0_0m2,lob pi0_0m2 aG a0_0.boxes si0_0m2),(i0_1,[.gptr i0_1_0 0,zI a0_1.version]),(i0_1_0,[.gmap i0_1_0_0,.list true 69 (a0_1_0.open_.map bG)]),(i0_1_0_0,aV keS (fun (x:List UInt8)=> .list false 5 (x.map zU8)) a0_1_0_0)] (fun v outs=>∃(h0_:Nat),v= .tuple [.list false 45 (r.1.map bB),zI r.2.1]∧outs=[(h0_,aV keS (fun (x:List UInt8)=> .list false 5 (x.map zU8)) r.2.2.1),(i0,[zI r.2.2.2.1.c.capacity.a,zI r.2.2.2.1.c.capacity.b,zI r.2.2.2.1.c.capacity.c,zI r.2.2.2.1.c.allocatable.a,zI r.2.2.2.1.c.allocatable.b,zI r.2.2.2.1.c.allocatable.c,.list false 102 (r.2.2.2.1.c.thresholds.map aL),zI r.2.2.2.1.c.period,zI r.2.2.2.1.c.retries,zI r.2.2.2.1.c.maxAge,zI r.2.2.2.1.c.dead,.gptr i0_0 0,.gptr i0_1 0,zI r.2.2.2.1.state.round,.list false 83 (r.2.2.2.1.state.pods.map aN),zB r.2.2.2.1.state.on.a,zB r.2.2.2.1.state.on.b,zB r.2.2.2.1.state.on.c,.list false 3 (r.2.2.2.1.since.map zI),zI r.2.2.2.1.calm.a,zI r.2.2.2.1.calm.b,zI r.2.2.2.1.calm.c,zI r.2.2.2.1.sample.time,zI r.2.2.2.1.sample.avail.a,zI r.2.2.2.1.sample.avail.b,zI r.2.2.2.1.sample.avail.c,.list false 280 (r.2.2.2.1.sample.use.map bC),zB r.2.2.2.1.fresh,zI r.2.2.2.1.fuse,zB r.2.2.2.1.dead]),(i0_0,[.list false 4 (a0_0.queue.l.map zB),zI a0_0.retries,hdM i0_0m2 pi0_0m2 a0_0.boxes si0_0m2,.list false 150 (a0_0.images.map aQ)]),(i0_0m2,lob pi0_0m2 aG a0_0.boxes si0_0m2),(i0_1,[.gptr i0_1_0 0,zI r.2.2.2.2.1.version]),(i0_1_0,[.gmap h0_,.list true 69 (r.2.2.2.2.2.open_.map bG)])]):=by
  refine a8 Tryz.func9 rfl rfl rfl rfl fun base=>?_
  unfold j9 at h
  refine srd 3 rfl [0,3] [3] rfl (aB (aB (aA (rh 4 [0] [] rfl ⟨rfl,trivial⟩ (aC.done [0,3,14] [3] rfl (aD h rfl (fun h=>?_) (fun h=>?_)))))))
  ·cases h
  refine aE (aB (b8 21 (by kernel_rfl) ?_))
  refine cfq rfl rfl (fun _ _ _=>rfl) ?_
  refine cfq rfl rfl (fun _ _ _=>rfl) ?_
  refine cfq rfl rfl (fun _ _ _=>rfl) ?_
  refine b9 rfl [0] rfl (fun _ _=>rfl) ⟨rfl,trivial⟩ ?_
  refine cfq rfl rfl (fun _ _ _=>rfl) ?_
  refine cfq rfl rfl (fun _ _ _=>rfl) ?_
  refine cfq rfl rfl (fun _ _ _=>rfl) ?_
  refine cfq rfl rfl (fun _ _ _=>rfl) ?_
  refine b9 rfl [0] rfl (fun _ _=>rfl) ⟨rfl,trivial⟩ ?_
  refine cfq rfl rfl (fun _ _ _=>rfl) ?_
  refine cfq rfl rfl (fun _ _ _=>rfl) ?_
  refine cfq rfl rfl (fun _ _ _=>rfl) ?_
  refine cfq rfl rfl (fun _ _ _=>rfl) ?_
  refine b9 rfl [0] rfl (fun _ _=>rfl) ⟨rfl,trivial⟩ ?_
  refine cfp rfl [] [(3,_)] rfl ⟨rfl,trivial⟩ (fun _ _ _=>rfl) trivial ?_
  obtain ⟨v1,hv1,h⟩:=bI h
  refine cf1 (d:=31) (v:= .tuple [J4 v1.1,zI v1.2]) rfl [(19,[],_),(24,[],_),(29,[],_),(30,[],_)] [] ⟨rfl,rfl,rfl,rfl,trivial⟩ trivial (fun fr X O hf=>?_) ?_
  ·refine aP (hsub:=sbF rfl hf) Tryz.call31 (F3 hv1) rfl ?_
   exact aW rfl
  refine cfq rfl rfl (fun _ _ _=>rfl) ?_
  refine cfq rfl rfl (fun _ _ _=>rfl) ?_
  refine cfq rfl rfl (fun _ _ _=>rfl) ?_
  refine cfa rfl (fun _ _ _=>rfl) rfl rfl ?_
  refine cfs (wr:=[]) (k0:=6) (cs':=[zI v1.1.kind,zI v1.1.signal,.list false 9 (v1.1.go_.map AV.str)]) rfl [(6,[],_),(32,[],_)] ⟨rfl,rfl,trivial⟩ rfl (fun fr X O hf=>?_) ?_
  ·exact rn 1 rfl (aW rfl)
  refine b6.nil ⟨by kernel_rfl,?_⟩
  refine rn 1 rfl (aC.done [0,3,6,7] [3,6] rfl (aB (srd 2 rfl [0,3,6,7,35] [3,6] rfl (aD h rfl (fun h=>?_) (fun h=>?_)))))
  ·cases h
  refine aE (aB (srd 8 rfl [0,3,6,44] [3,6] rfl (aD h rfl (fun h=>?_) (fun h=>?_))))
  ·cases h
  refine aE (srd 1 rfl [0,3,6,8] [3,6] rfl (aS (fun e=>e=⟨[(0,[],.gptr i0 0),(3,[],.lptr 3 0),(8,[],.list true 45 (([]:List SEvent).map bB))],[],[(3,[.str a1.id,zI a1.prio,zB a1.critical,zI a1.req.a,zI a1.req.b,zI a1.req.c,zI a1.lim.a,zI a1.lim.b,zI a1.lim.c,.str a1.image,zI a1.size])],[(i0,[zI a0.c.capacity.a,zI a0.c.capacity.b,zI a0.c.capacity.c,zI a0.c.allocatable.a,zI a0.c.allocatable.b,zI a0.c.allocatable.c,.list false 102 (a0.c.thresholds.map aL),zI a0.c.period,zI a0.c.retries,zI a0.c.maxAge,zI a0.c.dead,.gptr i0_0 0,.gptr i0_1 0,zI a0.state.round,.list false 83 (a0.state.pods.map aN),zB a0.state.on.a,zB a0.state.on.b,zB a0.state.on.c,.list false 3 (a0.since.map zI),zI a0.calm.a,zI a0.calm.b,zI a0.calm.c,zI a0.sample.time,zI a0.sample.avail.a,zI a0.sample.avail.b,zI a0.sample.avail.c,.list false 280 (a0.sample.use.map bC),zB a0.fresh,zI a0.fuse,zB a0.dead]),(i0_0,[.list false 4 (a0_0.queue.l.map zB),zI a0_0.retries,hdM i0_0m2 pi0_0m2 a0_0.boxes si0_0m2,.list false 150 (a0_0.images.map aQ)]),(i0_0m2,lob pi0_0m2 aG a0_0.boxes si0_0m2),(i0_1,[.gptr i0_1_0 0,zI a0_1.version]),(i0_1_0,[.gmap i0_1_0_0,.list true 69 (a0_1_0.open_.map bG)]),(i0_1_0_0,aV keS (fun (x:List UInt8)=> .list false 5 (x.map zU8)) a0_1_0_0)],base⟩∧iD a0 a0_0 a0_1 a0_1_0 a0_1_0_0 a1=some r) ?_ ?_))
  ·refine aB (aA (rh 4 [v1.1.go_.length] [] rfl ⟨List.length_map ..,trivial⟩ (aC.done [0,3,8,54,55,56] [3] rfl (aF (aU (fun m2 e=>e=⟨[(0,[],.gptr i0 0),(3,[],.lptr 3 0),(8,[],.list true 45 (([]:List SEvent).map bB)),(54,[],.list false 9 (v1.1.go_.map AV.str)),(55,[],zI (v1.1.go_.length:Int)),(56,[],zI 0)],[],[(3,[.str a1.id,zI a1.prio,zB a1.critical,zI a1.req.a,zI a1.req.b,zI a1.req.c,zI a1.lim.a,zI a1.lim.b,zI a1.lim.c,.str a1.image,zI a1.size])],[(i0,[zI a0.c.capacity.a,zI a0.c.capacity.b,zI a0.c.capacity.c,zI a0.c.allocatable.a,zI a0.c.allocatable.b,zI a0.c.allocatable.c,.list false 102 (a0.c.thresholds.map aL),zI a0.c.period,zI a0.c.retries,zI a0.c.maxAge,zI a0.c.dead,.gptr i0_0 0,.gptr i0_1 0,zI a0.state.round,.list false 83 (a0.state.pods.map aN),zB a0.state.on.a,zB a0.state.on.b,zB a0.state.on.c,.list false 3 (a0.since.map zI),zI a0.calm.a,zI a0.calm.b,zI a0.calm.c,zI a0.sample.time,zI a0.sample.avail.a,zI a0.sample.avail.b,zI a0.sample.avail.c,.list false 280 (a0.sample.use.map bC),zB a0.fresh,zI a0.fuse,zB a0.dead]),(i0_0,[.list false 4 (a0_0.queue.l.map zB),zI a0_0.retries,hdM i0_0m2 pi0_0m2 a0_0.boxes si0_0m2,.list false 150 (a0_0.images.map aQ)]),(i0_0m2,lob pi0_0m2 aG a0_0.boxes si0_0m2),(i0_1,[.gptr i0_1_0 0,zI a0_1.version]),(i0_1_0,[.gmap i0_1_0_0,.list true 69 (a0_1_0.open_.map bG)]),(i0_1_0_0,aV keS (fun (x:List UInt8)=> .list false 5 (x.map zU8)) a0_1_0_0)],base⟩∧iE v1 (iD a0 a0_0 a0_1 a0_1_0 a0_1_0_0 a1) m2=some r) aT ⟨rfl,h⟩ ?_ ?_)))))
   ·rintro m2 _ ⟨rfl,h⟩
    rw [iE] at h
    refine srd 1 rfl [0,3,8,54,55,56,57] [3] rfl (aB (aD h rfl (fun h=>?_) (fun h=>?_)))
    ·cases h
    refine aR [0,3,8] [3] rfl (CWp.exit ?_)
    exact ⟨rfl,h⟩
   rintro _ ⟨_,h⟩
   rw [iE] at h;cases h
  rintro _ ⟨rfl,h⟩
  unfold iD at h
  refine aB (b8 8 (by kernel_rfl) ?_)
  refine cfq rfl rfl (fun _ _ _=>rfl) ?_
  refine cfq rfl rfl (fun _ _ _=>rfl) ?_
  refine cfq rfl rfl (fun _ _ _=>rfl) ?_
  refine cfq rfl rfl (fun _ _ _=>rfl) ?_
  refine b9 rfl [0] rfl (fun _ _=>rfl) ⟨rfl,trivial⟩ ?_
  refine cfp rfl [] [(3,_)] rfl ⟨rfl,trivial⟩ (fun _ _ _=>rfl) trivial ?_
  refine cfq rfl rfl (fun _ _ _=>rfl) ?_
  obtain ⟨v2,hv2,h⟩:=bI h
  refine cf1 (d:=82) (v:=e9 v2) rfl [(79,[],_),(81,[],_)] [] ⟨rfl,rfl,trivial⟩ trivial (fun fr X O hf=>?_) ?_
  ·refine aP (hsub:=sbF rfl hf) Tryz.call33 (vL hv2) rfl ?_
   exact aW rfl
  refine b6.nil ⟨by kernel_rfl,?_⟩
  refine rh 3 [0] [] rfl ⟨rfl,trivial⟩ (aC.done [0,3,8] [3] rfl (aB (aA ?_)))
  obtain ⟨v3,hv3,h⟩:=bI h
  refine rh 6 [] [86] rfl trivial (iG (f:=bB) hv3 ?_)
  obtain ⟨v4,hv4,h⟩:=bI h
  refine bL [0,0,0,0,0,0] Tryz.call30 (tA hv4) rfl rfl ?_
  rintro _ _ ⟨o5,rfl,rfl⟩
  refine rn 4 rfl (aC.objs [1,1,1,1,1,0] rfl ?_)
  refine aC.done [4,5] [] rfl (aJ ?_)
  cases h
  exact ⟨.inl rfl,_,[5,0,0,0,0,0],_,_,rfl,rfl,rfl,o5,rfl,rfl⟩
def oA (a0:Int):Option Int:=
  some (IntKind.u64.wrap (max a0 0))
theorem r6 {a0:Int} {r:Int} (h:oA a0=some r):aI Tryz.prog 221 [zI a0] (.lit (.int .u64 r)):=by
  refine aK Tryz.func221 rfl rfl rfl rfl fun base=>?_
  unfold oA at h
  refine srd 1 rfl [0] [] rfl (srd 4 rfl [2] [] rfl ?_)
  cases h;exact aJ ⟨.inl rfl,rfl,rfl⟩
def kL (a0:Int):Option Bool:=
  some (a0 !=a0)
theorem tC {a0:Int} {r:Bool} (h:kL a0=some r):aI Tryz.prog 334 [.lit (.int .u64 a0)] (zB r):=by
  refine aK Tryz.func334 rfl rfl rfl rfl fun base=>?_
  unfold kL at h
  refine srd 1 rfl [0] [] rfl (srd 4 rfl [2] [] rfl ?_)
  cases h;exact aJ ⟨.inl rfl,rfl,rfl⟩
def jI (a0:Int) (a1:Int):Option Int:=
  bO (kL a0) fun v1=>
  bO (kL a1) fun v2=>
  bif v1 then none else
  bif v2 then none else
  bif decide (a0<a1) then
    some (-1)
  else
    bif decide (a0>a1) then none else
    some 0
theorem q7 {a0:Int} {a1:Int} {r:Int} (h:jI a0 a1=some r):aI Tryz.prog 281 [.lit (.int .u64 a0),.lit (.int .u64 a1)] (zI r):=by
  refine aK Tryz.func281 rfl rfl rfl rfl fun base=>?_
  unfold jI at h
  refine srd 1 rfl [0,1] [] rfl (aB (aA (rn 1 rfl ?_)))
  obtain ⟨v1,hv1,h⟩:=bI h
  refine aP Tryz.call334 (tC hv1) rfl ?_
  refine rn 1 rfl (aC.done [0,1,5] [] rfl (aB (aA (rn 1 rfl ?_))))
  obtain ⟨v2,hv2,h⟩:=bI h
  refine aP Tryz.call334 (tC hv2) rfl ?_
  refine rn 1 rfl (aC.done [0,1,5,6] [] rfl (aB (srd 1 rfl [0,1,6,11] [] rfl (aD h rfl (fun h=>?_) (fun h=>?_)))))
  ·cases h
  refine aE (aB (srd 1 rfl [0,1,13] [] rfl (aD h rfl (fun h=>?_) (fun h=>?_))))
  ·cases h
  refine aE (aB (srd 3 rfl [0,1,16] [] rfl (aD h rfl (fun h=>?_) (fun h=>?_))))
  ·refine srd 1 rfl [4] [] rfl ?_
   cases h;exact aJ ⟨.inl rfl,rfl,rfl⟩
  refine aE (aB (srd 3 rfl [19] [] rfl (aD h rfl (fun h=>?_) (fun h=>?_))))
  ·cases h
  refine aE (srd 1 rfl [4] [] rfl ?_)
  cases h;exact aJ ⟨.inl rfl,rfl,rfl⟩
def vQ (a0:Int) (a1:Int) (a2:Int) (a3:Int):Option Int:=
  bO (oA a0) fun v1=>
  bO (oA a1) fun v2=>
  bO (QZ v1 v2) fun v3=>
  bO (oA a2) fun v4=>
  bO (oA a3) fun v5=>
  bO (QZ v4 v5) fun v6=>
  bO (jI v3.1 v6.1) fun v7=>
  bO (jI v3.2 v6.2) fun v8=>
  bO (l9 [v7,v8]) fun v9=>
  some v9
theorem GF {a0:Int} {a1:Int} {a2:Int} {a3:Int} {r:Int} (h:vQ a0 a1 a2 a3=some r):aI Tryz.prog 214 [zI a0,zI a1,zI a2,zI a3] (zI r):=by
  refine aK Tryz.func214 rfl rfl rfl rfl fun base=>?_
  unfold vQ at h
  refine srd 1 rfl [0,1,2,3] [] rfl (aB (aA (rn 1 rfl ?_)))
  obtain ⟨v1,hv1,h⟩:=bI h
  refine aP Tryz.call221 (r6 hv1) rfl ?_
  refine rn 1 rfl ?_
  obtain ⟨v2,hv2,h⟩:=bI h
  refine aP Tryz.call221 (r6 hv2) rfl ?_
  obtain ⟨v3,hv3,h⟩:=bI h
  refine aP Tryz.call220 (SB hv3) rfl ?_
  refine rn 5 rfl (aC.done [2,3,9,10] [] rfl (aB (aA (rn 1 rfl ?_))))
  obtain ⟨v4,hv4,h⟩:=bI h
  refine aP Tryz.call221 (r6 hv4) rfl ?_
  refine rn 1 rfl ?_
  obtain ⟨v5,hv5,h⟩:=bI h
  refine aP Tryz.call221 (r6 hv5) rfl ?_
  obtain ⟨v6,hv6,h⟩:=bI h
  refine aP Tryz.call220 (SB hv6) rfl ?_
  refine rn 5 rfl (aC.done [9,10,11,12] [] rfl (aB (aA (rn 2 rfl ?_))))
  obtain ⟨v7,hv7,h⟩:=bI h
  refine aP Tryz.call281 (q7 hv7) rfl ?_
  refine rn 2 rfl ?_
  obtain ⟨v8,hv8,h⟩:=bI h
  refine aP Tryz.call281 (q7 hv8) rfl ?_
  refine rn 1 rfl ?_
  obtain ⟨v9,hv9,h⟩:=bI h
  refine aP Tryz.call171 (pY hv9) rfl ?_
  refine rn 1 rfl (aC.done [8] [] rfl ?_)
  cases h;exact aJ ⟨.inl rfl,rfl,rfl⟩
def zC (a0:Int) (a1:Int) (a2:Int):Option Bool:=
  bO (vQ a0 100 a1 a2) fun v1=>
  some (decide (v1<0))
theorem JI {a0:Int} {a1:Int} {a2:Int} {r:Bool} (h:zC a0 a1 a2=some r):aI Tryz.prog 167 [zI a0,zI a1,zI a2] (zB r):=by
  refine aK Tryz.func167 rfl rfl rfl rfl fun base=>?_
  unfold zC at h
  refine srd 1 rfl [0,1,2] [] rfl (aB (aA (rn 3 rfl ?_)))
  obtain ⟨v1,hv1,h⟩:=bI h
  refine aP Tryz.call214 (GF hv1) rfl ?_
  refine rn 2 rfl (aC.done [6] [] rfl ?_)
  cases h;exact aJ ⟨.inl rfl,rfl,rfl⟩
def y9 (a0:SThreshold) (a1:Int) (a2:Int):Option Bool:=
  bif decide (a0.percent>0) then
    bO (zC a2 a1 a0.percent) fun v1=>
    some v1
  else none
theorem JH {a0:SThreshold} {a1:Int} {a2:Int} {r:Bool} (h:y9 a0 a1 a2=some r):aI Tryz.prog 107 [aL a0,zI a1,zI a2] (zB r):=by
  refine aK Tryz.func107 rfl rfl rfl rfl fun base=>?_
  unfold y9 at h
  refine srd 2 rfl [1,2,3] [3] rfl (aB (srd 3 rfl [1,2,3,9] [3] rfl (aD h rfl (fun h=>?_) (fun h=>?_))))
  ·refine aB (aA (rn 4 rfl ?_))
   obtain ⟨v1,hv1,h⟩:=bI h
   refine aP Tryz.call167 (JI hv1) rfl ?_
   refine rn 1 rfl (aC.done [6] [] rfl ?_)
   cases h;exact aJ ⟨.inl rfl,rfl,rfl⟩
  cases h
def p5 (x4:List Bool):Option (List Bool):=
  some x4
def mD (a0:SConfig) (a1:V3 Int) (k290:(List Bool)→Option (List Bool)):Nat→(List Bool)→Int→Option (List Bool)
  |0,_,_=>none
  |m2+1,x6,x8=>
   bif decide (x8<(a0.thresholds.length:Int)) then
     bO (idx a0.thresholds x8) fun v9=>
     bO (idx [a0.capacity.a,a0.capacity.b,a0.capacity.c] v9.signal) fun v10=>
     bO (idx [a1.a,a1.b,a1.c] v9.signal) fun v11=>
     bO (y9 v9 v10 v11) fun v12=>
     bO (idx x6 x8) fun _v13=>
     (mD a0 a1 k290 m2) (List.set x6 (Int.toNat x8) v12) (w64 (x8+1))
   else
     k290 x6
def wE (a0:SConfig) (a1:V3 Int):Option (List Bool):=
  bO (mkO (a0.thresholds.length:Int) false) fun v2=>
  mD a0 a1 p5 aT v2 0
theorem DA {a0:SConfig} {a1:V3 Int} {r:List Bool} (h:wE a0 a1=some r):aI Tryz.prog 53 [gW a0,wP a1] (.list false 4 (r.map zB)):=by
  refine aK Tryz.func53 rfl rfl rfl rfl fun base=>?_
  unfold wE at h
  refine aB (aA (rn 2 rfl (lJ (α:=Bool) (sz:=1) 4 zB ?_)))
  rintro m1
  refine aC.objs [] rfl ?_
  refine aC.done [2,3] [2,3] rfl (aB (aA ?_))
  obtain ⟨v2,hv2,h⟩:=bI h
  refine rh 3 [a0.thresholds.length] [] rfl ⟨List.length_map ..,trivial⟩ (HM (f:=zB) false (fun _=>⟨rfl,rfl,rfl⟩) hv2 ?_)
  rintro m3
  refine rn 1 rfl (aC.done [2,3,5] [2,3] rfl (aS (fun e=>∃(m5:Nat) (pm5 sm5:Slk 1) (x4:_),e=⟨[(5,[],hdM m5 pm5 x4 sm5)],[],[],[(m5,lob pm5 zB x4 sm5)],base⟩∧p5 x4=some r) ?_ ?_))
  ·refine aB (aA (rh 4 [a0.thresholds.length] [] rfl ⟨List.length_map ..,trivial⟩ (aC.done [2,3,5,13,14,15] [2,3] rfl (aF (aU (fun m2 e=>∃(m7:Nat) (pm7 sm7:Slk 1) (x6:_) (x8:_),e=⟨[(2,[],.lptr 2 0),(3,[],.lptr 3 0),(5,[],hdM m7 pm7 x6 sm7),(13,[],.list false 102 (a0.thresholds.map aL)),(14,[],zI (a0.thresholds.length:Int)),(15,[],zI x8)],[],[(2,[zI a0.capacity.a,zI a0.capacity.b,zI a0.capacity.c,zI a0.allocatable.a,zI a0.allocatable.b,zI a0.allocatable.c,.list false 102 (a0.thresholds.map aL),zI a0.period,zI a0.retries,zI a0.maxAge,zI a0.dead]),(3,[zI a1.a,zI a1.b,zI a1.c])],[(m7,lob pm7 zB x6 sm7)],base⟩∧mD a0 a1 (p5) m2 x6 x8=some r) aT ⟨_,_,_,_,_,rfl,h⟩ ?_ ?_)))))
   ·rintro m2 _ ⟨m7,pm7,sm7,x6,x8,rfl,h⟩
    rw [mD] at h
    refine srd 1 rfl [2,3,5,13,14,15,16] [2,3] rfl (aB (aD h rfl (fun h=>?_) (fun h=>?_)))
    ·refine aE (aB (aF (aB (aA ?_))))
     obtain ⟨v9,hv9,h⟩:=bI h
     refine rn 1 rfl (rd (rIx hv9) ?_)
     refine rn 4 rfl (aC.done [2,3,5,6,7,13,14,15] [2,3,7] rfl (CWp.drawn 14 (by kernel_rfl) ?_))
     obtain ⟨v10,hv10,h⟩:=bI h
     refine pn 6 rfl (pd (xQ hv10) ?_)
     refine pd (CV 0 3 0 (f:=zI) (fun _=>⟨rfl,rfl,rfl⟩) hv10) ?_
     obtain ⟨v11,hv11,h⟩:=bI h
     refine pn 2 rfl (pd (xQ hv11) ?_)
     refine pd (CV 0 3 0 (f:=zI) (fun _=>⟨rfl,rfl,rfl⟩) hv11) ?_
     obtain ⟨v12,hv12,h⟩:=bI h
     refine kC Tryz.call107 (JH hv12) rfl ?_
     obtain ⟨v13,hv13,h⟩:=bI h
     refine pd (BI hv13) ?_
     refine b5.nil (CD (f:=zB) (off:=0) 0 (fun _=>⟨rfl,rfl,rfl⟩) hv13 v12 ?_)
     refine cRe [5,20] [] (show hdM m7 pm7 x6 sm7=hdM m7 pm7 (List.set x6 (Int.toNat x8) v12) sm7 from vT) ?_ ⟨rfl,rfl,trivial⟩ trivial
     refine aC.done [2,3,5,13,14,15] [2,3] rfl ?_
     refine aA (rn 2 rfl (aC.done [2,3,5,13,14,15] [2,3] rfl ?_))
     exact ⟨_,_,_,_,_,rfl,h⟩
    refine aR [5] [] rfl (CWp.exit ?_)
    exact ⟨_,_,_,_,rfl,h⟩
   rintro _ ⟨_,_,_,_,_,_,h⟩
   rw [mD] at h;cases h
  rintro _ ⟨m5,pm5,sm5,x4,rfl,h⟩
  unfold p5 at h
  refine srd 2 rfl [4] [] rfl (k7 (f:=zB) (E:=4) 0 [4] [] (fun _=>⟨rfl,rfl,rfl⟩) ?_ (h1:=⟨rfl,trivial⟩) (h2:=trivial))
  cases h;exact aJ ⟨.inl rfl,rfl,rfl⟩
def kO (x4:List Int):Option (List Int):=
  some x4
def tJ (x9:Int) (q2:(List Int)→Int→Option (List Int)) (x10:List Int):Option (List Int):=
  q2 x10 (w64 (x9+1))
def iS (a1:List Int) (a3:Int) (v6:List Bool) (k290:(List Int)→Option (List Int)):Nat→(List Int)→Int→Option (List Int)
  |0,_,_=>none
  |m2+1,x7,x9=>
   bif decide (x9<(v6.length:Int)) then
     bO (idx v6 x9) fun v12=>
     bO (bif v12 then (idx a1 x9) else some default) fun v13=>
     bif v12&&(v13==(-1)) then
       bO (idx x7 x9) fun _v14=>
       tJ x9 (iS a1 a3 v6 k290 m2) (List.set x7 (Int.toNat x9) a3)
     else none
   else
     k290 x7
def yQ (a0:SConfig) (a1:List Int) (a2:V3 Int) (a3:Int):Option (List Int):=
  bO (u9 a0) fun v2=>
  bO (wE a0 a2) fun v6=>
  iS a1 a3 v6 kO aT v2 0
theorem I2 {a0:SConfig} {a1:List Int} {a2:V3 Int} {a3:Int} {r:List Int} (h:yQ a0 a1 a2 a3=some r):aI Tryz.prog 50 [gW a0,.list false 3 (a1.map zI),wP a2,zI a3] (.list false 3 (r.map zI)):=by
  refine aK Tryz.func50 rfl rfl rfl rfl fun base=>?_
  unfold yQ at h
  refine aB (aA (rn 2 rfl (lJ (α:=Int) (sz:=1) 3 zI ?_)))
  rintro m1
  refine aC.objs [] rfl ?_
  refine aC.done [1,3,4,6] [4,6] rfl (aB (aA (rn 1 rfl ?_)))
  obtain ⟨v2,hv2,h⟩:=bI h
  refine bL [] Tryz.call36 (F6 hv2) rfl rfl ?_
  rintro _ _ ⟨m3,pm3,sm3,rfl,rfl⟩
  refine rn 1 rfl (aC.done [1,3,4,6,9] [4,6] rfl (aS (fun e=>∃(m5:Nat) (pm5 sm5:Slk 1) (x4:_),e=⟨[(9,[],hdM m5 pm5 x4 sm5)],[],[],[(m5,lob pm5 zI x4 sm5)],base⟩∧kO x4=some r) ?_ ?_))
  ·refine aB (aA (rn 2 rfl ?_))
   obtain ⟨v6,hv6,h⟩:=bI h
   refine aP Tryz.call53 (DA hv6) rfl ?_
   refine rh 2 [v6.length] [] rfl ⟨List.length_map ..,trivial⟩ (aC.done [1,3,9,16,17,18] [] rfl (aF (aU (fun m2 e=>∃(m8:Nat) (pm8 sm8:Slk 1) (x7:_) (x9:_),e=⟨[(1,[],.list false 3 (a1.map zI)),(3,[],zI a3),(9,[],hdM m8 pm8 x7 sm8),(16,[],.list false 4 (v6.map zB)),(17,[],zI (v6.length:Int)),(18,[],zI x9)],[],[],[(m8,lob pm8 zI x7 sm8)],base⟩∧iS a1 a3 v6 (kO) m2 x7 x9=some r) aT ⟨_,_,_,_,_,rfl,h⟩ ?_ ?_)))
   ·rintro m2 _ ⟨m8,pm8,sm8,x7,x9,rfl,h⟩
    rw [iS] at h
    refine srd 1 rfl [1,3,9,16,17,18,19] [] rfl (aB (aD h rfl (fun h=>?_) (fun h=>?_)))
    ·refine aE (aS (fun e=>∃(m11:Nat) (pm11 sm11:Slk 1) (x10:_),e=⟨[(1,[],.list false 3 (a1.map zI)),(3,[],zI a3),(9,[],hdM m11 pm11 x10 sm11),(16,[],.list false 4 (v6.map zB)),(17,[],zI (v6.length:Int)),(18,[],zI x9)],[],[],[(m11,lob pm11 zI x10 sm11)],base⟩∧tJ x9 (iS a1 a3 v6 (kO) m2) x10=some r) ?_ ?_)
     ·refine aF (aB (aA ?_))
      obtain ⟨v12,hv12,h⟩:=bI h
      refine rn 1 rfl (rd (rIx hv12) ?_)
      refine rn 3 rfl (aC.done [1,3,9,10,11,16,17,18] [] rfl (aF (aB (aA ?_))))
      obtain ⟨v13,hv13,h⟩:=bI h
      refine rn 4 rfl (rdg 25 true [] (fun ht=>rIx (gd hv13 (ht.1 _ rfl))) ?_)
      refine rn 4 rfl (aC.done [1,3,9,10,11,16,17,18,23] [] rfl (aD h rfl (fun h=>?_) (fun h=>?_)))
      ·refine aA ?_
       obtain ⟨v14,hv14,h⟩:=bI h
       refine rn 3 rfl (rd (BI hv14) ?_)
       refine CD (f:=zI) (off:=0) 0 (fun _=>⟨rfl,rfl,rfl⟩) hv14 a3 ?_
       refine cRe [9,32] [] (show hdM m8 pm8 x7 sm8=hdM m8 pm8 (List.set x7 (Int.toNat x9) a3) sm8 from vT) ?_ ⟨rfl,rfl,trivial⟩ trivial
       refine aC.done [1,3,9,16,17,18] [] rfl ?_
       exact ⟨_,_,_,_,rfl,h⟩
      cases h
     rintro _ ⟨m11,pm11,sm11,x10,rfl,h⟩
     unfold tJ at h
     refine aA (rn 2 rfl (aC.done [1,3,9,16,17,18] [] rfl ?_))
     exact ⟨_,_,_,_,_,rfl,h⟩
    refine aR [9] [] rfl (CWp.exit ?_)
    exact ⟨_,_,_,_,rfl,h⟩
   rintro _ ⟨_,_,_,_,_,_,h⟩
   rw [iS] at h;cases h
  rintro _ ⟨m5,pm5,sm5,x4,rfl,h⟩
  unfold kO at h
  refine srd 2 rfl [8] [] rfl (k7 (f:=zI) (E:=3) 0 [8] [] (fun _=>⟨rfl,rfl,rfl⟩) ?_ (h1:=⟨rfl,trivial⟩) (h2:=trivial))
  cases h;exact aJ ⟨.inl rfl,rfl,rfl⟩
def oM (x4:List Bool):Option (List Bool):=
  some x4
def kM (a0:SConfig) (a1:List Int) (a2:Int) (k290:(List Bool)→Option (List Bool)):Nat→(List Bool)→Int→Option (List Bool)
  |0,_,_=>none
  |m2+1,x6,x8=>
   bif decide (x8<(a0.thresholds.length:Int)) then
     bO (idx a0.thresholds x8) fun v9=>
     bO (idx a1 x8) fun v10=>
     bO (idx x6 x8) fun _v11=>
     (kM a0 a1 a2 k290 m2) (List.set x6 (Int.toNat x8) ((v10 !=(-1))&&((!v9.soft)||(decide ((w64 (a2-v10))≥v9.grace))))) (w64 (x8+1))
   else
     k290 x6
def yP (a0:SConfig) (a1:List Int) (a2:Int):Option (List Bool):=
  bO (mkO (a0.thresholds.length:Int) false) fun v2=>
  kM a0 a1 a2 oM aT v2 0
theorem I1 {a0:SConfig} {a1:List Int} {a2:Int} {r:List Bool} (h:yP a0 a1 a2=some r):aI Tryz.prog 51 [gW a0,.list false 3 (a1.map zI),zI a2] (.list false 4 (r.map zB)):=by
  refine aK Tryz.func51 rfl rfl rfl rfl fun base=>?_
  unfold yP at h
  refine aB (aA (rn 1 rfl (lJ (α:=Bool) (sz:=1) 4 zB ?_)))
  rintro m1
  refine aC.objs [] rfl ?_
  refine aC.done [1,2,3] [3] rfl (aB (aA ?_))
  obtain ⟨v2,hv2,h⟩:=bI h
  refine rh 3 [a0.thresholds.length] [] rfl ⟨List.length_map ..,trivial⟩ (HM (f:=zB) false (fun _=>⟨rfl,rfl,rfl⟩) hv2 ?_)
  rintro m3
  refine rn 1 rfl (aC.done [1,2,3,7] [3] rfl (aS (fun e=>∃(m5:Nat) (pm5 sm5:Slk 1) (x4:_),e=⟨[(7,[],hdM m5 pm5 x4 sm5)],[],[],[(m5,lob pm5 zB x4 sm5)],base⟩∧oM x4=some r) ?_ ?_))
  ·refine aB (aA (rh 4 [a0.thresholds.length] [] rfl ⟨List.length_map ..,trivial⟩ (aC.done [1,2,7,15,16,17] [] rfl (aF (aU (fun m2 e=>∃(m7:Nat) (pm7 sm7:Slk 1) (x6:_) (x8:_),e=⟨[(1,[],.list false 3 (a1.map zI)),(2,[],zI a2),(7,[],hdM m7 pm7 x6 sm7),(15,[],.list false 102 (a0.thresholds.map aL)),(16,[],zI (a0.thresholds.length:Int)),(17,[],zI x8)],[],[],[(m7,lob pm7 zB x6 sm7)],base⟩∧kM a0 a1 a2 (oM) m2 x6 x8=some r) aT ⟨_,_,_,_,_,rfl,h⟩ ?_ ?_)))))
   ·rintro m2 _ ⟨m7,pm7,sm7,x6,x8,rfl,h⟩
    rw [kM] at h
    refine srd 1 rfl [1,2,7,15,16,17,18] [] rfl (aB (aD h rfl (fun h=>?_) (fun h=>?_)))
    ·refine aE (aB (aF (aB (aA ?_))))
     obtain ⟨v9,hv9,h⟩:=bI h
     refine rn 1 rfl (rd (rIx hv9) ?_)
     refine rn 4 rfl (aC.done [1,2,7,8,9,15,16,17] [9] rfl (CWp.drawn 24 (by kernel_rfl) ?_))
     obtain ⟨v10,hv10,h⟩:=bI h
     refine pn 4 rfl (pd (rIx hv10) ?_)
     refine pn 10 rfl (pdg 33 false [(29,true)] (fun ht=>rIx hv10) ?_)
     obtain ⟨v11,hv11,h⟩:=bI h
     refine pn 7 rfl (pd (BI hv11) ?_)
     refine b5.nil (aC.keep [1,2,7,15,16,17,44,45] [] rfl (CD (f:=zB) (off:=0) 0 (fun _=>⟨rfl,rfl,rfl⟩) hv11 ((v10 !=(-1))&&((!v9.soft)||(decide ((w64 (a2-v10))≥v9.grace)))) ?_))
     refine cRe [7] [] (show hdM m7 pm7 x6 sm7=hdM m7 pm7 (List.set x6 (Int.toNat x8) ((v10 !=(-1))&&((!v9.soft)||(decide ((w64 (a2-v10))≥v9.grace))))) sm7 from vT) ?_ ⟨rfl,trivial⟩ trivial
     refine aC.done [1,2,7,15,16,17] [] rfl ?_
     refine aA (rn 2 rfl (aC.done [1,2,7,15,16,17] [] rfl ?_))
     exact ⟨_,_,_,_,_,rfl,h⟩
    refine aR [7] [] rfl (CWp.exit ?_)
    exact ⟨_,_,_,_,rfl,h⟩
   rintro _ ⟨_,_,_,_,_,_,h⟩
   rw [kM] at h;cases h
  rintro _ ⟨m5,pm5,sm5,x4,rfl,h⟩
  unfold oM at h
  refine srd 2 rfl [6] [] rfl (k7 (f:=zB) (E:=4) 0 [6] [] (fun _=>⟨rfl,rfl,rfl⟩) ?_ (h1:=⟨rfl,trivial⟩) (h2:=trivial))
  cases h;exact aJ ⟨.inl rfl,rfl,rfl⟩
def kN (x1:Bool) (x2:Bool) (x3:Bool):Option (V3 Bool):=
  some (⟨x1,x2,x3⟩:V3 Bool)
def iK (a0:SConfig) (a1:List Bool) (k290:Bool→Bool→Bool→Option (V3 Bool)):Nat→Bool→Bool→Bool→Int→Option (V3 Bool)
  |0,_,_,_,_=>none
  |m2+1,x4,x5,x6,x7=>
   bif decide (x7<(a0.thresholds.length:Int)) then
     bO (idx a0.thresholds x7) fun v8=>
     bO (idx [x4,x5,x6] v8.signal) fun v9=>
     bO (bif v9 then some default else (idx a1 x7)) fun v10=>
     (iK a0 a1 k290 m2) (bif v8.signal==0 then (v9||v10) else x4) (bif v8.signal==1 then (v9||v10) else x5) (bif v8.signal==2 then (v9||v10) else x6) (w64 (x7+1))
   else
     k290 x4 x5 x6
def oN (a0:SConfig) (a1:List Bool):Option (V3 Bool):=
  iK a0 a1 kN aT false false false 0
theorem xS {a0:SConfig} {a1:List Bool} {r:V3 Bool} (h:oN a0 a1=some r):aI Tryz.prog 52 [gW a0,.list false 4 (a1.map zB)] (xZ r):=by
  refine aK Tryz.func52 rfl rfl rfl rfl fun base=>?_
  unfold oN at h
  refine srd 2 rfl [1,2,4] [2,4] rfl (srd 1 rfl [1,2,4,5] [2,4,5] rfl (aS (fun e=>∃x1 x2 x3,e=⟨[(4,[],.lptr 4 0),(5,[],.lptr 5 0)],[],[(4,[zB false,zB false,zB false]),(5,[zB x1,zB x2,zB x3])],[],base⟩∧kN x1 x2 x3=some r) ?_ ?_))
  ·refine aB (aA (rh 4 [a0.thresholds.length] [] rfl ⟨List.length_map ..,trivial⟩ (aC.done [1,4,5,9,10,11] [4,5] rfl (aF (aU (fun m2 e=>∃x4 x5 x6 x7,e=⟨[(1,[],.list false 4 (a1.map zB)),(4,[],.lptr 4 0),(5,[],.lptr 5 0),(9,[],.list false 102 (a0.thresholds.map aL)),(10,[],zI (a0.thresholds.length:Int)),(11,[],zI x7)],[],[(4,[zB false,zB false,zB false]),(5,[zB x4,zB x5,zB x6])],[],base⟩∧iK a0 a1 (kN) m2 x4 x5 x6 x7=some r) aT ⟨_,_,_,_,rfl,h⟩ ?_ ?_)))))
   ·rintro m2 _ ⟨x4,x5,x6,x7,rfl,h⟩
    rw [iK] at h
    refine srd 1 rfl [1,4,5,9,10,11,12] [4,5] rfl (aB (aD h rfl (fun h=>?_) (fun h=>?_)))
    ·refine aE (aB (aF (aB (aA ?_))))
     obtain ⟨v8,hv8,h⟩:=bI h
     refine rn 1 rfl (rd (rIx hv8) ?_)
     refine rn 4 rfl (aC.done [1,4,5,6,7,9,10,11] [4,5,7] rfl (CWp.drawn 13 (by kernel_rfl) ?_))
     obtain ⟨v9,hv9,h⟩:=bI h
     refine pn 4 rfl (pd (xQ hv9) ?_)
     refine pd (CV 0 3 0 (f:=zB) (fun _=>⟨rfl,rfl,rfl⟩) hv9) ?_
     obtain ⟨v10,hv10,h⟩:=bI h
     refine pn 3 rfl (pdg 22 false [] (fun ht=>rIx (gdf hv10 (ht.1 _ rfl))) ?_)
     refine pn 2 rfl (pd (xQ hv9) ?_)
     refine b5.nil (aC.keep [1,4,5,9,10,11,27,28] [4,5] rfl (S9 0 3 0 (v9||v10) [zB (bif v8.signal==0 then (v9||v10) else x4),zB (bif v8.signal==1 then (v9||v10) else x5),zB (bif v8.signal==2 then (v9||v10) else x6)] (f:=zB) (fun _=>⟨rfl,rfl,rfl⟩) hv9 ?_))
     refine aC.done [1,4,5,9,10,11] [4,5] rfl ?_
     refine aA (rn 2 rfl (aC.done [1,4,5,9,10,11] [4,5] rfl ?_))
     exact ⟨_,_,_,_,rfl,h⟩
    refine aR [4,5] [4,5] rfl (CWp.exit ?_)
    exact ⟨_,_,_,rfl,h⟩
   rintro _ ⟨_,_,_,_,_,h⟩
   rw [iK] at h;cases h
  rintro _ ⟨x1,x2,x3,rfl,h⟩
  unfold kN at h
  refine srd 2 rfl [4] [4] rfl ?_
  cases h;exact aJ ⟨.inl rfl,rfl,rfl⟩
def u6 (a0:SCond):Option SCond:=
  bif !a0.on then
    some (⟨a0.on,0⟩:SCond)
  else none
def q8 (a0:SCond) (a1:Bool) (_a2:Bool) (a3:Bool) (_a4:Int):Option SCond:=
  bif a3&&a1 then
    some (⟨true,0⟩:SCond)
  else
    bif !a0.on then
      u6 a0
    else none
theorem w9 {a0:SCond} {a1:Bool} {a2:Bool} {a3:Bool} {a4:Int} {r:SCond} (h:q8 a0 a1 a2 a3 a4=some r):aI Tryz.prog 108 [s6 a0,zB a1,zB a2,zB a3,zI a4] (s6 r):=by
  refine aK Tryz.func108 rfl rfl rfl rfl fun base=>?_
  unfold q8 at h
  refine srd 2 rfl [1,2,3,4,5,10] [5,10] rfl (aB (aF (srd 5 rfl [2,3,4,5,10,11] [5,10] rfl (aD h rfl (fun h=>?_) (fun h=>?_)))))
  ·refine srd 2 rfl [10] [10] rfl ?_
   cases h;exact aJ ⟨.inl rfl,rfl,rfl⟩
  refine aS (fun e=>e=⟨[(4,[],zI a4),(5,[],.lptr 5 0),(10,[],.lptr 10 0),(17,[],zB (!a0.on))],[],[(5,[zB a0.on,zI a0.calm]),(10,[zB false,zI 0])],[],base⟩∧u6 a0=some r) ?_ ?_
  ·refine srd 4 rfl [2,3,4,5,10,17] [5,10] rfl (aD h rfl (fun h=>?_) (fun h=>?_))
   ·refine aR [4,5,10,17] [5,10] rfl (aE ?_)
    exact ⟨rfl,h⟩
   cases h
  rintro _ ⟨rfl,h⟩
  unfold u6 at h
  refine aD h rfl (fun h=>?_) (fun h=>?_)
  ·refine srd 4 rfl [10] [10] rfl ?_
   cases h;exact aJ ⟨.inl rfl,rfl,rfl⟩
  cases h
end
section
open Go.RowKit
def rR (x3:Bool) (x4:Int) (x5:Bool) (x6:Int) (x7:Bool) (x8:Int) (x9:List SEvent):Option ((V3 SCond)×(List SEvent)):=
  some ((⟨(⟨x3,x4⟩:SCond),(⟨x5,x6⟩:SCond),(⟨x7,x8⟩:SCond)⟩:V3 SCond),x9)
def rU (x20:Int) (x21:Bool) (x22:Int) (x23:Bool) (x24:Int) (x25:Bool) (x26:Int) (x27:List SEvent):Option ((V3 SCond)×(List SEvent)):=
  bif decide ((w64 (x20+1))<3) then none else
  rR x21 x22 x23 x24 x25 x26 x27
def rT (a0:V3 SCond) (a1:V3 Bool) (a2:V3 Bool) (a3:Bool) (a4:Int) (x11:Bool) (x12:Int) (x15:Int) (x16:Bool) (x17:Int) (x18:List SEvent):Option ((V3 SCond)×(List SEvent)):=
  bif decide ((w64 (x15+1))<3) then
    bO (idx [a0.a,a0.b,a0.c] (w64 (x15+1))) fun v29=>
    bO (idx [a1.a,a1.b,a1.c] (w64 (x15+1))) fun v30=>
    bO (idx [a2.a,a2.b,a2.c] (w64 (x15+1))) fun v31=>
    bO (q8 v29 v30 v31 a3 a4) fun v32=>
    bO (idx [(⟨x11,x12⟩:SCond),(⟨x16,x17⟩:SCond),a0.c] (w64 (x15+1))) fun _v33=>
    bO (idx [(⟨((bif (w64 (x15+1))==0 then v32 else (⟨x11,x12⟩:SCond)).on),((bif (w64 (x15+1))==0 then v32 else (⟨x11,x12⟩:SCond)).calm)⟩:SCond),(⟨((bif (w64 (x15+1))==1 then v32 else (⟨x16,x17⟩:SCond)).on),((bif (w64 (x15+1))==1 then v32 else (⟨x16,x17⟩:SCond)).calm)⟩:SCond),(⟨((bif (w64 (x15+1))==2 then v32 else a0.c).on),((bif (w64 (x15+1))==2 then v32 else a0.c).calm)⟩:SCond)] (w64 (x15+1))) fun v34=>
    bif v34.on&&(!v29.on) then
      bO (bM x18 [(⟨6,([]:List UInt8),w64 (x15+1),0⟩:SEvent)]) fun v35=>
      rU (w64 (x15+1)) ((bif (w64 (x15+1))==0 then v32 else (⟨x11,x12⟩:SCond)).on) ((bif (w64 (x15+1))==0 then v32 else (⟨x11,x12⟩:SCond)).calm) ((bif (w64 (x15+1))==1 then v32 else (⟨x16,x17⟩:SCond)).on) ((bif (w64 (x15+1))==1 then v32 else (⟨x16,x17⟩:SCond)).calm) ((bif (w64 (x15+1))==2 then v32 else a0.c).on) ((bif (w64 (x15+1))==2 then v32 else a0.c).calm) v35
    else
      bO (idx [(⟨((bif (w64 (x15+1))==0 then v32 else (⟨x11,x12⟩:SCond)).on),((bif (w64 (x15+1))==0 then v32 else (⟨x11,x12⟩:SCond)).calm)⟩:SCond),(⟨((bif (w64 (x15+1))==1 then v32 else (⟨x16,x17⟩:SCond)).on),((bif (w64 (x15+1))==1 then v32 else (⟨x16,x17⟩:SCond)).calm)⟩:SCond),(⟨((bif (w64 (x15+1))==2 then v32 else a0.c).on),((bif (w64 (x15+1))==2 then v32 else a0.c).calm)⟩:SCond)] (w64 (x15+1))) fun v37=>
      bif (!v37.on)&&v29.on then none else
      rU (w64 (x15+1)) ((bif (w64 (x15+1))==0 then v32 else (⟨x11,x12⟩:SCond)).on) ((bif (w64 (x15+1))==0 then v32 else (⟨x11,x12⟩:SCond)).calm) ((bif (w64 (x15+1))==1 then v32 else (⟨x16,x17⟩:SCond)).on) ((bif (w64 (x15+1))==1 then v32 else (⟨x16,x17⟩:SCond)).calm) ((bif (w64 (x15+1))==2 then v32 else a0.c).on) ((bif (w64 (x15+1))==2 then v32 else a0.c).calm) x18
  else
    rR x11 x12 x16 x17 a0.c.on a0.c.calm x18
def rS (a0:V3 SCond) (a1:V3 Bool) (a2:V3 Bool) (a3:Bool) (a4:Int) (x11:Bool) (x12:Int) (x13:List SEvent):Option ((V3 SCond)×(List SEvent)):=
  bO (q8 a0.b a1.b a2.b a3 a4) fun v38=>
  bif v38.on&&(!a0.b.on) then
    bO (bM x13 [(⟨6,([]:List UInt8),w64 ((0:Int)+1),0⟩:SEvent)]) fun v39=>
    rT a0 a1 a2 a3 a4 x11 x12 (w64 ((0:Int)+1)) v38.on v38.calm v39
  else
    bif (!v38.on)&&a0.b.on then none else
    rT a0 a1 a2 a3 a4 x11 x12 (w64 ((0:Int)+1)) v38.on v38.calm x13
def CJ (a0:V3 SCond) (a1:V3 Bool) (a2:V3 Bool) (a3:Bool) (a4:Int):Option ((V3 SCond)×(List SEvent)):=
  bO (q8 a0.a a1.a a2.a a3 a4) fun v41=>
  bif v41.on&&(!a0.a.on) then
    bO (bM ([]:List SEvent) [(⟨6,([]:List UInt8),0,0⟩:SEvent)]) fun v42=>
    rS a0 a1 a2 a3 a4 v41.on v41.calm v42
  else
    bif (!v41.on)&&a0.a.on then none else
    rS a0 a1 a2 a3 a4 v41.on v41.calm ([]:List SEvent)
theorem ML {a0:V3 SCond} {a1:V3 Bool} {a2:V3 Bool} {a3:Bool} {a4:Int} {r:(V3 SCond)×(List SEvent)} (h:CJ a0 a1 a2 a3 a4=some r):aO Tryz.prog 54 [FY a0,xZ a1,xZ a2,zB a3,zI a4] [] (fun v outs=>∃(h1_:Nat) (ph1_ sh1_:Slk 4),v= .tuple [FY r.1,hdM h1_ ph1_ r.2 sh1_]∧outs=[(h1_,lob ph1_ bB r.2 sh1_)]):=by
  refine a8 Tryz.func54 rfl rfl rfl rfl fun base=>?_
  unfold CJ at h
  refine aB (aA (rn 4 rfl (lJ (α:=SEvent) (sz:=4) 45 bB ?_)))
  rintro m1
  refine aC.objs [] rfl ?_
  refine aC.done [3,4,5,6,7,10] [5,6,7,10] rfl (aB (aA (lJ (α:=SEvent) (sz:=4) 45 bB ?_)))
  rintro m2
  refine aC.done [3,4,5,6,7,10,12] [5,6,7,10] rfl (aS (fun e=>∃(x3:_) (x4:_) (x5:_) (x6:_) (x7:_) (x8:_) (m10:Nat) (pm10 sm10:Slk 4) (x9:_),e=⟨[(5,[],.lptr 5 0),(10,[],.lptr 10 0),(12,[],hdM m10 pm10 x9 sm10)],[],[(5,[zB x3,zI x4,zB x5,zI x6,zB x7,zI x8]),(10,[zB false,zI 0,zB false,zI 0,zB false,zI 0])],[(m10,lob pm10 bB x9 sm10)],base⟩∧rR x3 x4 x5 x6 x7 x8 x9=some r) ?_ ?_)
  ·refine srd 2 rfl [3,4,5,6,7,10,12,15,16] [5,6,7,10] rfl (aF (d7 4 (crd (srd 1 rfl [3,4,5,6,7,10,12,15,16,17] [5,6,7,10] rfl (aB (bD rfl (by decide) ?_))))))
   refine aE (aS (fun e=>∃(x11:_) (x12:_) (m14:Nat) (pm14 sm14:Slk 4) (x13:_),e=⟨[(3,[],zB a3),(4,[],zI a4),(5,[],.lptr 5 0),(6,[],.lptr 6 0),(7,[],.lptr 7 0),(10,[],.lptr 10 0),(12,[],hdM m14 pm14 x13 sm14),(15,[],.agg [zB a0.a.on,zI a0.a.calm,zB a0.b.on,zI a0.b.calm,zB a0.c.on,zI a0.c.calm]),(16,[],zI 0)],[],[(5,[zB x11,zI x12,zB a0.b.on,zI a0.b.calm,zB a0.c.on,zI a0.c.calm]),(6,[zB a1.a,zB a1.b,zB a1.c]),(7,[zB a2.a,zB a2.b,zB a2.c]),(10,[zB false,zI 0,zB false,zI 0,zB false,zI 0])],[(m14,lob pm14 bB x13 sm14)],base⟩∧rS a0 a1 a2 a3 a4 x11 x12 x13=some r) ?_ ?_)
   ·refine aF (srd 5 rfl [3,4,5,6,7,10,12,13,14,15,16] [5,6,7,10,14] rfl (aB (b8 11 (by kernel_rfl) ?_)))
    refine cfq rfl rfl (fun _ _ _=>rfl) ?_
    refine cfp rfl [] [(14,_)] rfl ⟨rfl,trivial⟩ (fun _ _ _=>rfl) trivial ?_
    refine cfq rfl rfl (fun _ _ _=>rfl) ?_
    refine cfq rfl rfl (fun _ _ _=>rfl) ?_
    refine cfp rfl [] [(6,_)] rfl ⟨rfl,trivial⟩ (fun _ _ _=>rfl) trivial ?_
    refine cfq rfl rfl (fun _ _ _=>rfl) ?_
    refine cfq rfl rfl (fun _ _ _=>rfl) ?_
    refine cfp rfl [] [(7,_)] rfl ⟨rfl,trivial⟩ (fun _ _ _=>rfl) trivial ?_
    refine cfq rfl rfl (fun _ _ _=>rfl) ?_
    refine cfq rfl rfl (fun _ _ _=>rfl) ?_
    obtain ⟨v41,hv41,h⟩:=bI h
    refine cf1 (d:=30) (v:=s6 v41) rfl [(21,[],_),(24,[],_),(27,[],_),(28,[],_),(29,[],_)] [] ⟨rfl,rfl,rfl,rfl,rfl,trivial⟩ trivial (fun fr X O hf=>?_) ?_
    ·refine aP (hsub:=sbF rfl hf) Tryz.call108 (w9 hv41) rfl ?_
     exact aW rfl
    refine b6.nil ⟨by kernel_rfl,?_⟩
    refine rn 2 rfl (aC.done [3,4,5,6,7,10,12,13,14,15,16] [5,6,7,10,14] rfl (aF (srd 10 rfl [3,4,5,6,7,10,12,13,14,15,16,32] [5,6,7,10,14] rfl (aD h rfl (fun h=>?_) (fun h=>?_)))))
    ·refine aA ?_
     obtain ⟨v42,hv42,h⟩:=bI h
     refine rn 4 rfl (pS (f:=bB) 0 (fun _=>⟨rfl,rfl,rfl⟩) hv42 ?_)
     rintro m43 pm43 sm43
     refine rn 1 rfl (aC.done [3,4,5,6,7,10,12,15,16] [5,6,7,10] rfl ?_)
     exact ⟨_,_,_,_,_,_,rfl,h⟩
    refine srd 10 rfl [3,4,5,6,7,10,12,13,15,16,47] [5,6,7,10] rfl (aD h rfl (fun h=>?_) (fun h=>?_))
    ·cases h
    refine aR [3,4,5,6,7,10,12,15,16] [5,6,7,10] rfl (aE ?_)
    exact ⟨_,_,_,_,_,_,rfl,h⟩
   rintro _ ⟨x11,x12,m14,pm14,sm14,x13,rfl,h⟩
   unfold rS at h
   refine aA (rn 2 rfl (aC.done [3,4,5,6,7,10,12,15,16] [5,6,7,10] rfl (crd (srd 1 rfl [3,4,5,6,7,10,12,15,16,17] [5,6,7,10] rfl (aB (bD rfl (by decide) ?_))))))
   refine aE (aS (fun e=>∃(x15:_) (x16:_) (x17:_) (m19:Nat) (pm19 sm19:Slk 4) (x18:_),e=⟨[(3,[],zB a3),(4,[],zI a4),(5,[],.lptr 5 0),(6,[],.lptr 6 0),(7,[],.lptr 7 0),(10,[],.lptr 10 0),(12,[],hdM m19 pm19 x18 sm19),(15,[],.agg [zB a0.a.on,zI a0.a.calm,zB a0.b.on,zI a0.b.calm,zB a0.c.on,zI a0.c.calm]),(16,[],zI x15)],[],[(5,[zB x11,zI x12,zB x16,zI x17,zB a0.c.on,zI a0.c.calm]),(6,[zB a1.a,zB a1.b,zB a1.c]),(7,[zB a2.a,zB a2.b,zB a2.c]),(10,[zB false,zI 0,zB false,zI 0,zB false,zI 0])],[(m19,lob pm19 bB x18 sm19)],base⟩∧rT a0 a1 a2 a3 a4 x11 x12 x15 x16 x17 x18=some r) ?_ ?_)
   ·refine aF (srd 5 rfl [3,4,5,6,7,10,12,13,14,15,16] [5,6,7,10,14] rfl (aB (b8 11 (by kernel_rfl) ?_)))
    refine cfq rfl rfl (fun _ _ _=>rfl) ?_
    refine cfp rfl [] [(14,_)] rfl ⟨rfl,trivial⟩ (fun _ _ _=>rfl) trivial ?_
    refine cfq rfl rfl (fun _ _ _=>rfl) ?_
    refine cfq rfl rfl (fun _ _ _=>rfl) ?_
    refine cfp rfl [] [(6,_)] rfl ⟨rfl,trivial⟩ (fun _ _ _=>rfl) trivial ?_
    refine cfq rfl rfl (fun _ _ _=>rfl) ?_
    refine cfq rfl rfl (fun _ _ _=>rfl) ?_
    refine cfp rfl [] [(7,_)] rfl ⟨rfl,trivial⟩ (fun _ _ _=>rfl) trivial ?_
    refine cfq rfl rfl (fun _ _ _=>rfl) ?_
    refine cfq rfl rfl (fun _ _ _=>rfl) ?_
    obtain ⟨v38,hv38,h⟩:=bI h
    refine cf1 (d:=30) (v:=s6 v38) rfl [(21,[],_),(24,[],_),(27,[],_),(28,[],_),(29,[],_)] [] ⟨rfl,rfl,rfl,rfl,rfl,trivial⟩ trivial (fun fr X O hf=>?_) ?_
    ·refine aP (hsub:=sbF rfl hf) Tryz.call108 (w9 hv38) rfl ?_
     exact aW rfl
    refine b6.nil ⟨by kernel_rfl,?_⟩
    refine rn 2 rfl (aC.done [3,4,5,6,7,10,12,13,14,15,16] [5,6,7,10,14] rfl (aF (srd 10 rfl [3,4,5,6,7,10,12,13,14,15,16,32] [5,6,7,10,14] rfl (aD h rfl (fun h=>?_) (fun h=>?_)))))
    ·refine aA ?_
     obtain ⟨v39,hv39,h⟩:=bI h
     refine rn 4 rfl (pS (f:=bB) 0 (fun _=>⟨rfl,rfl,rfl⟩) hv39 ?_)
     rintro m40 pm40 sm40
     refine rn 1 rfl (aC.done [3,4,5,6,7,10,12,15,16] [5,6,7,10] rfl ?_)
     exact ⟨_,_,_,_,_,_,_,rfl,h⟩
    refine srd 10 rfl [3,4,5,6,7,10,12,13,15,16,47] [5,6,7,10] rfl (aD h rfl (fun h=>?_) (fun h=>?_))
    ·cases h
    refine aR [3,4,5,6,7,10,12,15,16] [5,6,7,10] rfl (aE ?_)
    exact ⟨_,_,_,_,_,_,_,rfl,h⟩
   rintro _ ⟨x15,x16,x17,m19,pm19,sm19,x18,rfl,h⟩
   unfold rT at h
   refine aA (rn 2 rfl (aC.done [3,4,5,6,7,10,12,15,16] [5,6,7,10] rfl (crd (srd 1 rfl [3,4,5,6,7,10,12,15,16,17] [5,6,7,10] rfl (aB (aD h rfl (fun h=>?_) (fun h=>?_)))))))
   ·refine aE (aS (fun e=>∃(x20:_) (x21:_) (x22:_) (x23:_) (x24:_) (x25:_) (x26:_) (m28:Nat) (pm28 sm28:Slk 4) (x27:_),e=⟨[(3,[],zB a3),(4,[],zI a4),(5,[],.lptr 5 0),(6,[],.lptr 6 0),(7,[],.lptr 7 0),(10,[],.lptr 10 0),(12,[],hdM m28 pm28 x27 sm28),(15,[],.agg [zB a0.a.on,zI a0.a.calm,zB a0.b.on,zI a0.b.calm,zB a0.c.on,zI a0.c.calm]),(16,[],zI x20)],[],[(5,[zB x21,zI x22,zB x23,zI x24,zB x25,zI x26]),(6,[zB a1.a,zB a1.b,zB a1.c]),(7,[zB a2.a,zB a2.b,zB a2.c]),(10,[zB false,zI 0,zB false,zI 0,zB false,zI 0])],[(m28,lob pm28 bB x27 sm28)],base⟩∧rU x20 x21 x22 x23 x24 x25 x26 x27=some r) ?_ ?_)
    ·refine aF (aB (aA ?_))
     obtain ⟨v29,hv29,h⟩:=bI h
     refine rn 1 rfl (rd (Q3 (f:=s6) (fun _=>⟨rfl,rfl,rfl⟩) hv29) ?_)
     refine rn 3 rfl (aC.done [3,4,5,6,7,10,12,13,14,15,16] [5,6,7,10,14] rfl (aB (b8 11 (by kernel_rfl) ?_)))
     refine cfq rfl rfl (fun _ _ _=>rfl) ?_
     refine cfp rfl [] [(14,_)] rfl ⟨rfl,trivial⟩ (fun _ _ _=>rfl) trivial ?_
     refine cfq rfl rfl (fun _ _ _=>rfl) ?_
     obtain ⟨v30,hv30,h⟩:=bI h
     refine cf1 (d:=23) (v:= .lptr 6 (0+Int.toNat (w64 (x15+1))*1)) rfl [(6,[],_),(22,[],_)] [] ⟨rfl,rfl,trivial⟩ trivial (fun fr X O hf=>?_) ?_
     ·refine rd (xQ hv30) ?_
      exact aW rfl
     refine cf1 (d:=24) (v:=zB v30) rfl [(23,[],_)] [(6,_)] ⟨rfl,trivial⟩ ⟨rfl,trivial⟩ (fun fr X O hf=>?_) ?_
     ·refine rd (CV 0 3 0 (f:=zB) (fun _=>⟨rfl,rfl,rfl⟩) hv30) ?_
      exact aW rfl
     refine cfq rfl rfl (fun _ _ _=>rfl) ?_
     obtain ⟨v31,hv31,h⟩:=bI h
     refine cf1 (d:=26) (v:= .lptr 7 (0+Int.toNat (w64 (x15+1))*1)) rfl [(7,[],_),(25,[],_)] [] ⟨rfl,rfl,trivial⟩ trivial (fun fr X O hf=>?_) ?_
     ·refine rd (xQ hv31) ?_
      exact aW rfl
     refine cf1 (d:=27) (v:=zB v31) rfl [(26,[],_)] [(7,_)] ⟨rfl,trivial⟩ ⟨rfl,trivial⟩ (fun fr X O hf=>?_) ?_
     ·refine rd (CV 0 3 0 (f:=zB) (fun _=>⟨rfl,rfl,rfl⟩) hv31) ?_
      exact aW rfl
     refine cfq rfl rfl (fun _ _ _=>rfl) ?_
     refine cfq rfl rfl (fun _ _ _=>rfl) ?_
     obtain ⟨v32,hv32,h⟩:=bI h
     refine cf1 (d:=30) (v:=s6 v32) rfl [(21,[],_),(24,[],_),(27,[],_),(28,[],_),(29,[],_)] [] ⟨rfl,rfl,rfl,rfl,rfl,trivial⟩ trivial (fun fr X O hf=>?_) ?_
     ·refine aP (hsub:=sbF rfl hf) Tryz.call108 (w9 hv32) rfl ?_
      exact aW rfl
     refine b6.nil ⟨by kernel_rfl,?_⟩
     obtain ⟨v33,hv33,h⟩:=bI h
     refine rd (xQ hv33) ?_
     refine S9 0 6 0 v32 [zB ((bif (w64 (x15+1))==0 then v32 else (⟨x11,x12⟩:SCond)).on),zI ((bif (w64 (x15+1))==0 then v32 else (⟨x11,x12⟩:SCond)).calm),zB ((bif (w64 (x15+1))==1 then v32 else (⟨x16,x17⟩:SCond)).on),zI ((bif (w64 (x15+1))==1 then v32 else (⟨x16,x17⟩:SCond)).calm),zB ((bif (w64 (x15+1))==2 then v32 else a0.c).on),zI ((bif (w64 (x15+1))==2 then v32 else a0.c).calm)] (f:=s6) (fun _=>⟨rfl,rfl,rfl⟩) hv33 ?_
     refine aC.done [3,4,5,6,7,10,12,13,14,15,16] [5,6,7,10,14] rfl (aF (aB (aA ?_)))
     obtain ⟨v34,hv34,h⟩:=bI h
     refine rn 1 rfl (rd (xQ hv34) ?_)
     refine rn 1 rfl (rd (CV 0 6 0 (f:=s6) (fun _=>⟨rfl,rfl,rfl⟩) hv34) ?_)
     refine rn 6 rfl (aC.done [3,4,5,6,7,10,12,13,14,15,16,32] [5,6,7,10,14] rfl (aD h rfl (fun h=>?_) (fun h=>?_)))
     ·refine aA ?_
      obtain ⟨v35,hv35,h⟩:=bI h
      refine rn 4 rfl (pS (f:=bB) 0 (fun _=>⟨rfl,rfl,rfl⟩) hv35 ?_)
      rintro m36 pm36 sm36
      refine rn 1 rfl (aC.done [3,4,5,6,7,10,12,15,16] [5,6,7,10] rfl ?_)
      exact ⟨_,_,_,_,_,_,_,_,_,_,_,rfl,h⟩
     refine aB (aA ?_)
     obtain ⟨v37,hv37,h⟩:=bI h
     refine rn 1 rfl (rd (xQ hv37) ?_)
     refine rn 1 rfl (rd (CV 0 6 0 (f:=s6) (fun _=>⟨rfl,rfl,rfl⟩) hv37) ?_)
     refine rn 6 rfl (aC.done [3,4,5,6,7,10,12,13,15,16,47] [5,6,7,10] rfl (aD h rfl (fun h=>?_) (fun h=>?_)))
     ·cases h
     refine aR [3,4,5,6,7,10,12,15,16] [5,6,7,10] rfl (aE ?_)
     exact ⟨_,_,_,_,_,_,_,_,_,_,_,rfl,h⟩
    rintro _ ⟨x20,x21,x22,x23,x24,x25,x26,m28,pm28,sm28,x27,rfl,h⟩
    unfold rU at h
    refine aA (rn 2 rfl (aC.done [3,4,5,6,7,10,12,15,16] [5,6,7,10] rfl (crd (srd 1 rfl [3,4,5,6,7,10,12,15,16,17] [5,6,7,10] rfl (aB (aD h rfl (fun h=>?_) (fun h=>?_)))))))
    ·cases h
    refine aR [5,10,12] [5,10] rfl (CWp.exit ?_)
    exact ⟨_,_,_,_,_,_,_,_,_,_,rfl,h⟩
   refine aR [5,10,12] [5,10] rfl (CWp.exit ?_)
   exact ⟨_,_,_,_,_,_,_,_,_,_,rfl,h⟩
  rintro _ ⟨x3,x4,x5,x6,x7,x8,m10,pm10,sm10,x9,rfl,h⟩
  unfold rR at h
  refine srd 4 rfl [10,11] [10] rfl (aJ ?_)
  cases h
  exact ⟨.inl rfl,_,[0],_,_,rfl,rfl,rfl,m10,pm10,sm10,rfl,rfl⟩
end
section
open Go.RowKit
def fX (a0_0:SAgent) (x1:Bool) (x2:Bool) (x3:Bool) (x4:List Bool) (x5:Bool) (x6:Bool) (x7:Bool) (x8:List Int):Option (Sround×SAgent):=
  bO (CJ (⟨(⟨a0_0.state.on.a,a0_0.calm.a⟩:SCond),(⟨a0_0.state.on.b,a0_0.calm.b⟩:SCond),(⟨a0_0.state.on.c,a0_0.calm.c⟩:SCond)⟩:V3 SCond) (⟨x5,x6,x7⟩:V3 Bool) (⟨x1,x2,x3⟩:V3 Bool) a0_0.fresh a0_0.c.period) fun v9=>
  some ((⟨v9.2,x4,(⟨x5,x6,x7⟩:V3 Bool)⟩:Sround),(⟨a0_0.c,(⟨a0_0.state.round,a0_0.state.pods,(⟨v9.1.a.on,v9.1.b.on,v9.1.c.on⟩:V3 Bool)⟩:SState),x8,(⟨v9.1.a.calm,v9.1.b.calm,v9.1.c.calm⟩:V3 Int),a0_0.sample,a0_0.fresh,a0_0.fuse,a0_0.dead⟩:SAgent))
def l5 (a0:Sround) (a0_0:SAgent) (_a0_0_0:SWorld) (_a0_0_1:SStore) (_a0_0_1_0:SDisk) (_a0_0_1_0_0:List ((List UInt8)×(List UInt8))):Option (Sround×SAgent):=
  bif a0_0.fresh then
    bO (yQ a0_0.c a0_0.since a0_0.sample.avail a0_0.state.round) fun v11=>
    bO (yP a0_0.c v11 a0_0.state.round) fun v12=>
    bO (oN a0_0.c v12) fun v13=>
    bO (wE a0_0.c a0_0.sample.avail) fun v14=>
    bO (oN a0_0.c v14) fun v15=>
    fX a0_0 v15.a v15.b v15.c v12 v13.a v13.b v13.c v11
  else
    fX a0_0 false false false a0.holds a0.press.a a0.press.b a0.press.c a0_0.since
theorem zQ {a0:Sround} {a0_0:SAgent} {a0_0_0:SWorld} {a0_0_1:SStore} {a0_0_1_0:SDisk} {a0_0_1_0_0:List ((List UInt8)×(List UInt8))} {i0 i0_0 i0_0_0 i0_0_1 i0_0_1_0 i0_0_1_0_0:Nat} {i0m1:Nat} {pi0m1 si0m1:Slk 4} {i0_0_0m2:Nat} {pi0_0_0m2 si0_0_0m2:Slk 4} {r:Sround×SAgent} (h:l5 a0 a0_0 a0_0_0 a0_0_1 a0_0_1_0 a0_0_1_0_0=some r):aO Tryz.prog 23 [.gptr i0 0] [(i0,[.gptr i0_0 0,hdM i0m1 pi0m1 a0.events si0m1,.list false 4 (a0.holds.map zB),zB a0.press.a,zB a0.press.b,zB a0.press.c]),(i0m1,lob pi0m1 bB a0.events si0m1),(i0_0,[zI a0_0.c.capacity.a,zI a0_0.c.capacity.b,zI a0_0.c.capacity.c,zI a0_0.c.allocatable.a,zI a0_0.c.allocatable.b,zI a0_0.c.allocatable.c,.list false 102 (a0_0.c.thresholds.map aL),zI a0_0.c.period,zI a0_0.c.retries,zI a0_0.c.maxAge,zI a0_0.c.dead,.gptr i0_0_0 0,.gptr i0_0_1 0,zI a0_0.state.round,.list false 83 (a0_0.state.pods.map aN),zB a0_0.state.on.a,zB a0_0.state.on.b,zB a0_0.state.on.c,.list false 3 (a0_0.since.map zI),zI a0_0.calm.a,zI a0_0.calm.b,zI a0_0.calm.c,zI a0_0.sample.time,zI a0_0.sample.avail.a,zI a0_0.sample.avail.b,zI a0_0.sample.avail.c,.list false 280 (a0_0.sample.use.map bC),zB a0_0.fresh,zI a0_0.fuse,zB a0_0.dead]),(i0_0_0,[.list false 4 (a0_0_0.queue.l.map zB),zI a0_0_0.retries,hdM i0_0_0m2 pi0_0_0m2 a0_0_0.boxes si0_0_0m2,.list false 150 (a0_0_0.images.map aQ)]),(i0_0_0m2,lob pi0_0_0m2 aG a0_0_0.boxes si0_0_0m2),(i0_0_1,[.gptr i0_0_1_0 0,zI a0_0_1.version]),(i0_0_1_0,[.gmap i0_0_1_0_0,.list true 69 (a0_0_1_0.open_.map bG)]),(i0_0_1_0_0,aV keS (fun (x:List UInt8)=> .list false 5 (x.map zU8)) a0_0_1_0_0)] (fun v outs=>∃(i0m1_:Nat) (pi0m1_ si0m1_:Slk 4),v= .tuple []∧outs=[(i0,[.gptr i0_0 0,hdM i0m1_ pi0m1_ r.1.events si0m1_,.list false 4 (r.1.holds.map zB),zB r.1.press.a,zB r.1.press.b,zB r.1.press.c]),(i0m1_,lob pi0m1_ bB r.1.events si0m1_),(i0_0,[zI r.2.c.capacity.a,zI r.2.c.capacity.b,zI r.2.c.capacity.c,zI r.2.c.allocatable.a,zI r.2.c.allocatable.b,zI r.2.c.allocatable.c,.list false 102 (r.2.c.thresholds.map aL),zI r.2.c.period,zI r.2.c.retries,zI r.2.c.maxAge,zI r.2.c.dead,.gptr i0_0_0 0,.gptr i0_0_1 0,zI r.2.state.round,.list false 83 (r.2.state.pods.map aN),zB r.2.state.on.a,zB r.2.state.on.b,zB r.2.state.on.c,.list false 3 (r.2.since.map zI),zI r.2.calm.a,zI r.2.calm.b,zI r.2.calm.c,zI r.2.sample.time,zI r.2.sample.avail.a,zI r.2.sample.avail.b,zI r.2.sample.avail.c,.list false 280 (r.2.sample.use.map bC),zB r.2.fresh,zI r.2.fuse,zB r.2.dead]),(i0_0_0,[.list false 4 (a0_0_0.queue.l.map zB),zI a0_0_0.retries,hdM i0_0_0m2 pi0_0_0m2 a0_0_0.boxes si0_0_0m2,.list false 150 (a0_0_0.images.map aQ)]),(i0_0_0m2,lob pi0_0_0m2 aG a0_0_0.boxes si0_0_0m2),(i0_0_1,[.gptr i0_0_1_0 0,zI a0_0_1.version]),(i0_0_1_0,[.gmap i0_0_1_0_0,.list true 69 (a0_0_1_0.open_.map bG)]),(i0_0_1_0_0,aV keS (fun (x:List UInt8)=> .list false 5 (x.map zU8)) a0_0_1_0_0)]):=by
  refine a8 Tryz.func23 rfl rfl rfl rfl fun base=>?_
  unfold l5 at h
  refine srd 1 rfl [0,2] [2] rfl (aS (fun e=>∃x1 x2 x3 x4 x5 x6 x7 x8,e=⟨[(0,[],.gptr i0 0),(2,[],.lptr 2 0)],[],[(2,[zB x1,zB x2,zB x3])],[(i0,[.gptr i0_0 0,hdM i0m1 pi0m1 a0.events si0m1,.list false 4 (x4.map zB),zB x5,zB x6,zB x7]),(i0m1,lob pi0m1 bB a0.events si0m1),(i0_0,[zI a0_0.c.capacity.a,zI a0_0.c.capacity.b,zI a0_0.c.capacity.c,zI a0_0.c.allocatable.a,zI a0_0.c.allocatable.b,zI a0_0.c.allocatable.c,.list false 102 (a0_0.c.thresholds.map aL),zI a0_0.c.period,zI a0_0.c.retries,zI a0_0.c.maxAge,zI a0_0.c.dead,.gptr i0_0_0 0,.gptr i0_0_1 0,zI a0_0.state.round,.list false 83 (a0_0.state.pods.map aN),zB a0_0.state.on.a,zB a0_0.state.on.b,zB a0_0.state.on.c,.list false 3 (x8.map zI),zI a0_0.calm.a,zI a0_0.calm.b,zI a0_0.calm.c,zI a0_0.sample.time,zI a0_0.sample.avail.a,zI a0_0.sample.avail.b,zI a0_0.sample.avail.c,.list false 280 (a0_0.sample.use.map bC),zB a0_0.fresh,zI a0_0.fuse,zB a0_0.dead]),(i0_0_0,[.list false 4 (a0_0_0.queue.l.map zB),zI a0_0_0.retries,hdM i0_0_0m2 pi0_0_0m2 a0_0_0.boxes si0_0_0m2,.list false 150 (a0_0_0.images.map aQ)]),(i0_0_0m2,lob pi0_0_0m2 aG a0_0_0.boxes si0_0_0m2),(i0_0_1,[.gptr i0_0_1_0 0,zI a0_0_1.version]),(i0_0_1_0,[.gmap i0_0_1_0_0,.list true 69 (a0_0_1_0.open_.map bG)]),(i0_0_1_0_0,aV keS (fun (x:List UInt8)=> .list false 5 (x.map zU8)) a0_0_1_0_0)],base⟩∧fX a0_0 x1 x2 x3 x4 x5 x6 x7 x8=some r) ?_ ?_)
  ·refine aB (aA (rh 7 [0,2] [] rfl ⟨rfl,rfl,trivial⟩ (aC.done [0,2,13] [2] rfl (aD h rfl (fun h=>?_) (fun h=>?_)))))
   ·refine aB (b8 35 (by kernel_rfl) ?_)
    refine cfq rfl rfl (fun _ _ _=>rfl) ?_
    refine cfq rfl rfl (fun _ _ _=>rfl) ?_
    refine cfq rfl rfl (fun _ _ _=>rfl) ?_
    refine b9 rfl [0] rfl (fun _ _=>rfl) ⟨rfl,trivial⟩ ?_
    refine cfq rfl rfl (fun _ _ _=>rfl) ?_
    refine cfq rfl rfl (fun _ _ _=>rfl) ?_
    refine cfq rfl rfl (fun _ _ _=>rfl) ?_
    refine b9 rfl [0] rfl (fun _ _=>rfl) ⟨rfl,trivial⟩ ?_
    refine cfq rfl rfl (fun _ _ _=>rfl) ?_
    refine cfq rfl rfl (fun _ _ _=>rfl) ?_
    refine b9 rfl [2] rfl (fun _ _=>rfl) ⟨rfl,trivial⟩ ?_
    refine cfq rfl rfl (fun _ _ _=>rfl) ?_
    refine cfq rfl rfl (fun _ _ _=>rfl) ?_
    refine cfq rfl rfl (fun _ _ _=>rfl) ?_
    refine b9 rfl [0] rfl (fun _ _=>rfl) ⟨rfl,trivial⟩ ?_
    refine cfq rfl rfl (fun _ _ _=>rfl) ?_
    refine cfq rfl rfl (fun _ _ _=>rfl) ?_
    refine b9 rfl [2] rfl (fun _ _=>rfl) ⟨rfl,trivial⟩ ?_
    refine cfq rfl rfl (fun _ _ _=>rfl) ?_
    refine cfq rfl rfl (fun _ _ _=>rfl) ?_
    refine cfq rfl rfl (fun _ _ _=>rfl) ?_
    refine b9 rfl [0] rfl (fun _ _=>rfl) ⟨rfl,trivial⟩ ?_
    refine cfq rfl rfl (fun _ _ _=>rfl) ?_
    refine cfq rfl rfl (fun _ _ _=>rfl) ?_
    refine cfq rfl rfl (fun _ _ _=>rfl) ?_
    refine b9 rfl [2] rfl (fun _ _=>rfl) ⟨rfl,trivial⟩ ?_
    refine cfq rfl rfl (fun _ _ _=>rfl) ?_
    refine cfq rfl rfl (fun _ _ _=>rfl) ?_
    refine cfq rfl rfl (fun _ _ _=>rfl) ?_
    refine b9 rfl [0] rfl (fun _ _=>rfl) ⟨rfl,trivial⟩ ?_
    refine cfq rfl rfl (fun _ _ _=>rfl) ?_
    refine cfq rfl rfl (fun _ _ _=>rfl) ?_
    refine cfq rfl rfl (fun _ _ _=>rfl) ?_
    refine b9 rfl [2] rfl (fun _ _=>rfl) ⟨rfl,trivial⟩ ?_
    obtain ⟨v11,hv11,h⟩:=bI h
    refine cf1 (d:=48) (v:= .list false 3 (v11.map zI)) rfl [(24,[],_),(31,[],_),(39,[],_),(47,[],_)] [] ⟨rfl,rfl,rfl,rfl,trivial⟩ trivial (fun fr X O hf=>?_) ?_
    ·refine aP (hsub:=sbF rfl hf) Tryz.call50 (I2 hv11) rfl ?_
     exact aW rfl
    refine b6.nil ⟨by kernel_rfl,?_⟩
    refine rh 3 [2] [] rfl ⟨rfl,trivial⟩ (aC.done [0,2] [2] rfl (aB (b8 24 (by kernel_rfl) ?_)))
    refine cfq rfl rfl (fun _ _ _=>rfl) ?_
    refine cfq rfl rfl (fun _ _ _=>rfl) ?_
    refine cfq rfl rfl (fun _ _ _=>rfl) ?_
    refine cfq rfl rfl (fun _ _ _=>rfl) ?_
    refine b9 rfl [0] rfl (fun _ _=>rfl) ⟨rfl,trivial⟩ ?_
    refine cfq rfl rfl (fun _ _ _=>rfl) ?_
    refine cfq rfl rfl (fun _ _ _=>rfl) ?_
    refine b9 rfl [2] rfl (fun _ _=>rfl) ⟨rfl,trivial⟩ ?_
    refine cfq rfl rfl (fun _ _ _=>rfl) ?_
    refine cfq rfl rfl (fun _ _ _=>rfl) ?_
    refine cfq rfl rfl (fun _ _ _=>rfl) ?_
    refine b9 rfl [0] rfl (fun _ _=>rfl) ⟨rfl,trivial⟩ ?_
    refine cfq rfl rfl (fun _ _ _=>rfl) ?_
    refine cfq rfl rfl (fun _ _ _=>rfl) ?_
    refine b9 rfl [2] rfl (fun _ _=>rfl) ⟨rfl,trivial⟩ ?_
    refine cfq rfl rfl (fun _ _ _=>rfl) ?_
    refine cfq rfl rfl (fun _ _ _=>rfl) ?_
    refine cfq rfl rfl (fun _ _ _=>rfl) ?_
    refine b9 rfl [0] rfl (fun _ _=>rfl) ⟨rfl,trivial⟩ ?_
    refine cfq rfl rfl (fun _ _ _=>rfl) ?_
    refine cfq rfl rfl (fun _ _ _=>rfl) ?_
    refine cfq rfl rfl (fun _ _ _=>rfl) ?_
    refine b9 rfl [2] rfl (fun _ _=>rfl) ⟨rfl,trivial⟩ ?_
    obtain ⟨v12,hv12,h⟩:=bI h
    refine cf1 (d:=74) (v:= .list false 4 (v12.map zB)) rfl [(58,[],_),(65,[],_),(73,[],_)] [] ⟨rfl,rfl,rfl,trivial⟩ trivial (fun fr X O hf=>?_) ?_
    ·refine aP (hsub:=sbF rfl hf) Tryz.call51 (I1 hv12) rfl ?_
     exact aW rfl
    refine b6.nil ⟨by kernel_rfl,?_⟩
    refine rh 3 [0] [] rfl ⟨rfl,trivial⟩ (aC.done [0,2] [2] rfl (aB (b8 13 (by kernel_rfl) ?_)))
    refine cfq rfl rfl (fun _ _ _=>rfl) ?_
    refine cfq rfl rfl (fun _ _ _=>rfl) ?_
    refine cfq rfl rfl (fun _ _ _=>rfl) ?_
    refine cfq rfl rfl (fun _ _ _=>rfl) ?_
    refine b9 rfl [0] rfl (fun _ _=>rfl) ⟨rfl,trivial⟩ ?_
    refine cfq rfl rfl (fun _ _ _=>rfl) ?_
    refine cfq rfl rfl (fun _ _ _=>rfl) ?_
    refine b9 rfl [2] rfl (fun _ _=>rfl) ⟨rfl,trivial⟩ ?_
    refine cfq rfl rfl (fun _ _ _=>rfl) ?_
    refine cfq rfl rfl (fun _ _ _=>rfl) ?_
    refine cfq rfl rfl (fun _ _ _=>rfl) ?_
    refine b9 rfl [0] rfl (fun _ _=>rfl) ⟨rfl,trivial⟩ ?_
    obtain ⟨v13,hv13,h⟩:=bI h
    refine cf1 (d:=89) (v:=xZ v13) rfl [(84,[],_),(88,[],_)] [] ⟨rfl,rfl,trivial⟩ trivial (fun fr X O hf=>?_) ?_
    ·refine aP (hsub:=sbF rfl hf) Tryz.call52 (xS hv13) rfl ?_
     exact aW rfl
    refine b6.nil ⟨by kernel_rfl,?_⟩
    refine rh 3 [0] [] rfl ⟨rfl,trivial⟩ (aC.done [0,2] [2] rfl (b8 23 (by kernel_rfl) ?_))
    refine cfq rfl rfl (fun _ _ _=>rfl) ?_
    refine cfq rfl rfl (fun _ _ _=>rfl) ?_
    refine cfq rfl rfl (fun _ _ _=>rfl) ?_
    refine b9 rfl [0] rfl (fun _ _=>rfl) ⟨rfl,trivial⟩ ?_
    refine cfq rfl rfl (fun _ _ _=>rfl) ?_
    refine cfq rfl rfl (fun _ _ _=>rfl) ?_
    refine b9 rfl [2] rfl (fun _ _=>rfl) ⟨rfl,trivial⟩ ?_
    refine cfq rfl rfl (fun _ _ _=>rfl) ?_
    refine cfq rfl rfl (fun _ _ _=>rfl) ?_
    refine cfq rfl rfl (fun _ _ _=>rfl) ?_
    refine b9 rfl [0] rfl (fun _ _=>rfl) ⟨rfl,trivial⟩ ?_
    refine cfq rfl rfl (fun _ _ _=>rfl) ?_
    refine cfq rfl rfl (fun _ _ _=>rfl) ?_
    refine b9 rfl [2] rfl (fun _ _=>rfl) ⟨rfl,trivial⟩ ?_
    refine cfq rfl rfl (fun _ _ _=>rfl) ?_
    refine cfq rfl rfl (fun _ _ _=>rfl) ?_
    refine cfq rfl rfl (fun _ _ _=>rfl) ?_
    refine b9 rfl [0] rfl (fun _ _=>rfl) ⟨rfl,trivial⟩ ?_
    refine cfq rfl rfl (fun _ _ _=>rfl) ?_
    refine cfq rfl rfl (fun _ _ _=>rfl) ?_
    refine cfq rfl rfl (fun _ _ _=>rfl) ?_
    refine b9 rfl [2] rfl (fun _ _=>rfl) ⟨rfl,trivial⟩ ?_
    obtain ⟨v14,hv14,h⟩:=bI h
    refine cf1 (d:=114) (v:= .list false 4 (v14.map zB)) rfl [(105,[],_),(113,[],_)] [] ⟨rfl,rfl,trivial⟩ trivial (fun fr X O hf=>?_) ?_
    ·refine aP (hsub:=sbF rfl hf) Tryz.call53 (DA hv14) rfl ?_
     exact aW rfl
    refine b6.nil ⟨by kernel_rfl,?_⟩
    obtain ⟨v15,hv15,h⟩:=bI h
    refine aP Tryz.call52 (xS hv15) rfl ?_
    refine rn 1 rfl (aC.done [0,2] [2] rfl ?_)
    exact ⟨_,_,_,_,_,_,_,_,rfl,h⟩
   refine aR [0,2] [2] rfl (aE ?_)
   exact ⟨_,_,_,_,_,_,_,_,rfl,h⟩
  rintro _ ⟨x1,x2,x3,x4,x5,x6,x7,x8,rfl,h⟩
  unfold fX at h
  refine srd 1 rfl [0,2,3] [2,3] rfl (aB (srd 1 rfl [0,2,3,116] [2,3] rfl (aF (d7 4 (crd (srd 1 rfl [0,2,3,116,117] [2,3] rfl (aB (bD rfl (by decide) ?_))))))))
  refine aE (aB (aF (srd 2 rfl [0,2,3,4,116] [2,3] rfl (CWp.drawn 22 (by kernel_rfl) ?_))))
  refine ph 22 [0,2,0,2] rfl ⟨rfl,rfl,rfl,rfl,trivial⟩ (b5.nil (rn 1 rfl (aC.done [0,2,3,116] [2,3] rfl ?_)))
  refine aA (rn 2 rfl (aC.done [0,2,3,116] [2,3] rfl (crd (srd 1 rfl [0,2,3,116,117] [2,3] rfl (aB (bD rfl (by decide) ?_))))))
  refine aE (aB (aF (srd 2 rfl [0,2,3,4,116] [2,3] rfl (CWp.drawn 22 (by kernel_rfl) ?_))))
  refine ph 22 [0,2,0,2] rfl ⟨rfl,rfl,rfl,rfl,trivial⟩ (b5.nil (rn 1 rfl (aC.done [0,2,3,116] [2,3] rfl ?_)))
  refine aA (rn 2 rfl (aC.done [0,2,3,116] [2,3] rfl (crd (srd 1 rfl [0,2,3,116,117] [2,3] rfl (aB (bD rfl (by decide) ?_))))))
  refine aE (aB (aF (srd 2 rfl [0,2,3,4,116] [2,3] rfl (CWp.drawn 22 (by kernel_rfl) ?_))))
  refine ph 22 [0,2,0,2] rfl ⟨rfl,rfl,rfl,rfl,trivial⟩ (b5.nil (rn 1 rfl (aC.done [0,2,3,116] [2,3] rfl ?_)))
  refine aA (rn 2 rfl (aC.done [0,2,3,116] [2,3] rfl (crd (srd 1 rfl [0,2,3,116,117] [2,3] rfl (aB (dD rfl (by decide) ?_))))))
  refine CWp.exit (aB (sP [0,1,2,3,4,5,6,7,8,9,10,11,12,13,14,15,16,17,18,19,20,21,22,23,24,25,26,27,28,29] (by kernel_rfl) (dB.of ?_)))
  refine bQ 0 rfl [] [] rfl trivial (fun _ _ _=>rfl) trivial ?_
  refine bQ 1 rfl [] [(3,_)] rfl ⟨rfl,trivial⟩ (fun _ _ _=>rfl) trivial ?_
  refine bQ 2 rfl [] [] rfl trivial (fun _ _ _=>rfl) trivial ?_
  refine bQ 3 rfl [] [] rfl trivial (fun _ _ _=>rfl) trivial ?_
  refine bQ 4 rfl [] [] rfl trivial (fun _ _ _=>rfl) trivial ?_
  refine AK 5 rfl [0] rfl (fun _ _=>rfl) ⟨rfl,trivial⟩ ?_
  refine bQ 6 rfl [] [(2,_)] rfl ⟨rfl,trivial⟩ (fun _ _ _=>rfl) trivial ?_
  refine bQ 7 rfl [] [] rfl trivial (fun _ _ _=>rfl) trivial ?_
  refine bQ 8 rfl [] [] rfl trivial (fun _ _ _=>rfl) trivial ?_
  refine bQ 9 rfl [] [] rfl trivial (fun _ _ _=>rfl) trivial ?_
  refine AK 10 rfl [0] rfl (fun _ _=>rfl) ⟨rfl,trivial⟩ ?_
  refine bQ 11 rfl [] [] rfl trivial (fun _ _ _=>rfl) trivial ?_
  refine bQ 12 rfl [] [] rfl trivial (fun _ _ _=>rfl) trivial ?_
  refine AK 13 rfl [2] rfl (fun _ _=>rfl) ⟨rfl,trivial⟩ ?_
  refine bQ 14 rfl [] [] rfl trivial (fun _ _ _=>rfl) trivial ?_
  refine bQ 15 rfl [] [] rfl trivial (fun _ _ _=>rfl) trivial ?_
  refine bQ 16 rfl [] [] rfl trivial (fun _ _ _=>rfl) trivial ?_
  refine AK 17 rfl [0] rfl (fun _ _=>rfl) ⟨rfl,trivial⟩ ?_
  refine bQ 18 rfl [] [] rfl trivial (fun _ _ _=>rfl) trivial ?_
  refine bQ 19 rfl [] [] rfl trivial (fun _ _ _=>rfl) trivial ?_
  refine bQ 20 rfl [] [] rfl trivial (fun _ _ _=>rfl) trivial ?_
  refine AK 21 rfl [2] rfl (fun _ _=>rfl) ⟨rfl,trivial⟩ ?_
  obtain ⟨v9,hv9,h⟩:=bI h
  refine kcg (ι:=Nat×Slk 4×Slk 4) ((0,Slk.nil,Slk.nil)) (fun g_=>[(165,[],.tuple [FY v9.1,hdM g_.1 g_.2.1 v9.2 g_.2.2])]) (fun g_=>[(g_.1,lob g_.2.1 bB v9.2 g_.2.2),(i0,[.gptr i0_0 0,hdM i0m1 pi0m1 a0.events si0m1,.list false 4 (x4.map zB),zB x5,zB x6,zB x7]),(i0m1,lob pi0m1 bB a0.events si0m1),(i0_0,[zI a0_0.c.capacity.a,zI a0_0.c.capacity.b,zI a0_0.c.capacity.c,zI a0_0.c.allocatable.a,zI a0_0.c.allocatable.b,zI a0_0.c.allocatable.c,.list false 102 (a0_0.c.thresholds.map aL),zI a0_0.c.period,zI a0_0.c.retries,zI a0_0.c.maxAge,zI a0_0.c.dead,.gptr i0_0_0 0,.gptr i0_0_1 0,zI a0_0.state.round,.list false 83 (a0_0.state.pods.map aN),zB a0_0.state.on.a,zB a0_0.state.on.b,zB a0_0.state.on.c,.list false 3 (x8.map zI),zI a0_0.calm.a,zI a0_0.calm.b,zI a0_0.calm.c,zI a0_0.sample.time,zI a0_0.sample.avail.a,zI a0_0.sample.avail.b,zI a0_0.sample.avail.c,.list false 280 (a0_0.sample.use.map bC),zB a0_0.fresh,zI a0_0.fuse,zB a0_0.dead]),(i0_0_0,[.list false 4 (a0_0_0.queue.l.map zB),zI a0_0_0.retries,hdM i0_0_0m2 pi0_0_0m2 a0_0_0.boxes si0_0_0m2,.list false 150 (a0_0_0.images.map aQ)]),(i0_0_0m2,lob pi0_0_0m2 aG a0_0_0.boxes si0_0_0m2),(i0_0_1,[.gptr i0_0_1_0 0,zI a0_0_1.version]),(i0_0_1_0,[.gmap i0_0_1_0_0,.list true 69 (a0_0_1_0.open_.map bG)]),(i0_0_1_0_0,aV keS (fun (x:List UInt8)=> .list false 5 (x.map zU8)) a0_0_1_0_0)]) 22 rfl [(144,[],_),(148,[],_),(149,[],_),(156,[],_),(164,[],_)] ⟨rfl,rfl,rfl,rfl,rfl,trivial⟩ (fun fr X hf=>?_) (by kernel_rfl) (fun _=>⟨rfl,by kernel_rfl⟩) ?_
  ·refine bL [] Tryz.call54 (ML hv9) rfl rfl ?_
   rintro _ _ ⟨m10,pm10,sm10,rfl,rfl⟩
   exact aW ⟨(m10,pm10,sm10),rfl⟩
  rintro ⟨m10,pm10,sm10⟩
  refine bQ 23 rfl [] [] rfl trivial (fun _ _ _=>rfl) trivial ?_
  refine bQ 24 rfl [] [] rfl trivial (fun _ _ _=>rfl) trivial ?_
  refine bQ 25 rfl [] [] rfl trivial (fun _ _ _=>rfl) trivial ?_
  refine WD (wr:=[]) (k0:=3) (cs':=[zB v9.1.a.on,zI v9.1.a.calm,zB v9.1.b.on,zI v9.1.b.calm,zB v9.1.c.on,zI v9.1.c.calm]) 26 rfl [(3,[],_),(166,[],_)] ⟨rfl,rfl,trivial⟩ rfl (fun fr X O hf=>?_) ?_
  ·exact rn 1 rfl (aW rfl)
  refine bQ 27 rfl [] [] rfl trivial (fun _ _ _=>rfl) trivial ?_
  refine bQ 28 rfl [] [] rfl trivial (fun _ _ _=>rfl) trivial ?_
  refine WC (wr:=[]) (O1:=[(m10,lob pm10 bB v9.2 sm10),(i0,[.gptr i0_0 0,hdM m10 pm10 v9.2 sm10,.list false 4 (x4.map zB),zB x5,zB x6,zB x7]),(i0m1,lob pi0m1 bB a0.events si0m1),(i0_0,[zI a0_0.c.capacity.a,zI a0_0.c.capacity.b,zI a0_0.c.capacity.c,zI a0_0.c.allocatable.a,zI a0_0.c.allocatable.b,zI a0_0.c.allocatable.c,.list false 102 (a0_0.c.thresholds.map aL),zI a0_0.c.period,zI a0_0.c.retries,zI a0_0.c.maxAge,zI a0_0.c.dead,.gptr i0_0_0 0,.gptr i0_0_1 0,zI a0_0.state.round,.list false 83 (a0_0.state.pods.map aN),zB a0_0.state.on.a,zB a0_0.state.on.b,zB a0_0.state.on.c,.list false 3 (x8.map zI),zI a0_0.calm.a,zI a0_0.calm.b,zI a0_0.calm.c,zI a0_0.sample.time,zI a0_0.sample.avail.a,zI a0_0.sample.avail.b,zI a0_0.sample.avail.c,.list false 280 (a0_0.sample.use.map bC),zB a0_0.fresh,zI a0_0.fuse,zB a0_0.dead]),(i0_0_0,[.list false 4 (a0_0_0.queue.l.map zB),zI a0_0_0.retries,hdM i0_0_0m2 pi0_0_0m2 a0_0_0.boxes si0_0_0m2,.list false 150 (a0_0_0.images.map aQ)]),(i0_0_0m2,lob pi0_0_0m2 aG a0_0_0.boxes si0_0_0m2),(i0_0_1,[.gptr i0_0_1_0 0,zI a0_0_1.version]),(i0_0_1_0,[.gmap i0_0_1_0_0,.list true 69 (a0_0_1_0.open_.map bG)]),(i0_0_1_0_0,aV keS (fun (x:List UInt8)=> .list false 5 (x.map zU8)) a0_0_1_0_0)]) 29 rfl [(169,[],_),(167,[],_)] ⟨rfl,rfl,trivial⟩ (fun fr X hf=>?_) ?_
  ·exact rh 1 [1] [] rfl ⟨rfl,trivial⟩ (aW rfl)
  refine dB.nil (by kernel_rfl) ⟨rfl,?_⟩
  refine aC.objs [1,0,1,1,1,1,1,1] rfl ?_
  refine aC.done [0,3] [3] rfl (srd 2 rfl [0,170,171] [] rfl (aF (d7 4 (crd (srd 1 rfl [0,170,171,172] [] rfl (aB (bD rfl (by decide) ?_)))))))
  refine aE (aB (aF (srd 5 rfl [0,5,6,170,171] [6] rfl (b8 21 (by kernel_rfl) ?_))))
  refine cfq rfl rfl (fun _ _ _=>rfl) ?_
  refine cfq rfl rfl (fun _ _ _=>rfl) ?_
  refine cfq rfl rfl (fun _ _ _=>rfl) ?_
  refine b9 rfl [0] rfl (fun _ _=>rfl) ⟨rfl,trivial⟩ ?_
  refine cfq rfl rfl (fun _ _ _=>rfl) ?_
  refine cfq rfl rfl (fun _ _ _=>rfl) ?_
  refine cfq rfl rfl (fun _ _ _=>rfl) ?_
  refine cfq rfl rfl (fun _ _ _=>rfl) ?_
  refine b9 rfl [0] rfl (fun _ _=>rfl) ⟨rfl,trivial⟩ ?_
  refine cfq rfl rfl (fun _ _ _=>rfl) ?_
  refine cfq rfl rfl (fun _ _ _=>rfl) ?_
  refine cfp rfl [] [(6,_)] rfl ⟨rfl,trivial⟩ (fun _ _ _=>rfl) trivial ?_
  refine cfq rfl rfl (fun _ _ _=>rfl) ?_
  refine cfp rfl [] [(6,_)] rfl ⟨rfl,trivial⟩ (fun _ _ _=>rfl) trivial ?_
  refine cfq rfl rfl (fun _ _ _=>rfl) ?_
  refine cfq rfl rfl (fun _ _ _=>rfl) ?_
  refine cfq rfl rfl (fun _ _ _=>rfl) ?_
  refine cfq rfl rfl (fun _ _ _=>rfl) ?_
  refine cfo (wr:=[]) (O1:=[(i0,[.gptr i0_0 0,hdM m10 pm10 v9.2 sm10,.list false 4 (x4.map zB),zB x5,zB x6,zB x7]),(m10,lob pm10 bB v9.2 sm10),(i0_0,[zI a0_0.c.capacity.a,zI a0_0.c.capacity.b,zI a0_0.c.capacity.c,zI a0_0.c.allocatable.a,zI a0_0.c.allocatable.b,zI a0_0.c.allocatable.c,.list false 102 (a0_0.c.thresholds.map aL),zI a0_0.c.period,zI a0_0.c.retries,zI a0_0.c.maxAge,zI a0_0.c.dead,.gptr i0_0_0 0,.gptr i0_0_1 0,zI a0_0.state.round,.list false 83 (a0_0.state.pods.map aN),zB v9.1.a.on,zB a0_0.state.on.b,zB a0_0.state.on.c,.list false 3 (x8.map zI),zI a0_0.calm.a,zI a0_0.calm.b,zI a0_0.calm.c,zI a0_0.sample.time,zI a0_0.sample.avail.a,zI a0_0.sample.avail.b,zI a0_0.sample.avail.c,.list false 280 (a0_0.sample.use.map bC),zB a0_0.fresh,zI a0_0.fuse,zB a0_0.dead]),(i0_0_0,[.list false 4 (a0_0_0.queue.l.map zB),zI a0_0_0.retries,hdM i0_0_0m2 pi0_0_0m2 a0_0_0.boxes si0_0_0m2,.list false 150 (a0_0_0.images.map aQ)]),(i0_0_0m2,lob pi0_0_0m2 aG a0_0_0.boxes si0_0_0m2),(i0_0_1,[.gptr i0_0_1_0 0,zI a0_0_1.version]),(i0_0_1_0,[.gmap i0_0_1_0_0,.list true 69 (a0_0_1_0.open_.map bG)]),(i0_0_1_0_0,aV keS (fun (x:List UInt8)=> .list false 5 (x.map zU8)) a0_0_1_0_0)]) rfl [(192,[],_),(186,[],_)] ⟨rfl,rfl,trivial⟩ (fun fr X hf=>?_) ?_
  ·exact rh 1 [2] [] rfl ⟨rfl,trivial⟩ (aW rfl)
  refine cfq rfl rfl (fun _ _ _=>rfl) ?_
  refine cfq rfl rfl (fun _ _ _=>rfl) ?_
  refine b6.nil ⟨by kernel_rfl,?_⟩
  refine rh 2 [2] [] rfl ⟨rfl,trivial⟩ (aC.done [0,170,171] [] rfl ?_)
  refine aA (rn 2 rfl (aC.done [0,170,171] [] rfl (crd (srd 1 rfl [0,170,171,172] [] rfl (aB (bD rfl (by decide) ?_))))))
  refine aE (aB (aF (srd 5 rfl [0,5,6,170,171] [6] rfl (b8 21 (by kernel_rfl) ?_))))
  refine cfq rfl rfl (fun _ _ _=>rfl) ?_
  refine cfq rfl rfl (fun _ _ _=>rfl) ?_
  refine cfq rfl rfl (fun _ _ _=>rfl) ?_
  refine b9 rfl [0] rfl (fun _ _=>rfl) ⟨rfl,trivial⟩ ?_
  refine cfq rfl rfl (fun _ _ _=>rfl) ?_
  refine cfq rfl rfl (fun _ _ _=>rfl) ?_
  refine cfq rfl rfl (fun _ _ _=>rfl) ?_
  refine cfq rfl rfl (fun _ _ _=>rfl) ?_
  refine b9 rfl [0] rfl (fun _ _=>rfl) ⟨rfl,trivial⟩ ?_
  refine cfq rfl rfl (fun _ _ _=>rfl) ?_
  refine cfq rfl rfl (fun _ _ _=>rfl) ?_
  refine cfp rfl [] [(6,_)] rfl ⟨rfl,trivial⟩ (fun _ _ _=>rfl) trivial ?_
  refine cfq rfl rfl (fun _ _ _=>rfl) ?_
  refine cfp rfl [] [(6,_)] rfl ⟨rfl,trivial⟩ (fun _ _ _=>rfl) trivial ?_
  refine cfq rfl rfl (fun _ _ _=>rfl) ?_
  refine cfq rfl rfl (fun _ _ _=>rfl) ?_
  refine cfq rfl rfl (fun _ _ _=>rfl) ?_
  refine cfq rfl rfl (fun _ _ _=>rfl) ?_
  refine cfo (wr:=[]) (O1:=[(i0,[.gptr i0_0 0,hdM m10 pm10 v9.2 sm10,.list false 4 (x4.map zB),zB x5,zB x6,zB x7]),(m10,lob pm10 bB v9.2 sm10),(i0_0,[zI a0_0.c.capacity.a,zI a0_0.c.capacity.b,zI a0_0.c.capacity.c,zI a0_0.c.allocatable.a,zI a0_0.c.allocatable.b,zI a0_0.c.allocatable.c,.list false 102 (a0_0.c.thresholds.map aL),zI a0_0.c.period,zI a0_0.c.retries,zI a0_0.c.maxAge,zI a0_0.c.dead,.gptr i0_0_0 0,.gptr i0_0_1 0,zI a0_0.state.round,.list false 83 (a0_0.state.pods.map aN),zB v9.1.a.on,zB v9.1.b.on,zB a0_0.state.on.c,.list false 3 (x8.map zI),zI v9.1.a.calm,zI a0_0.calm.b,zI a0_0.calm.c,zI a0_0.sample.time,zI a0_0.sample.avail.a,zI a0_0.sample.avail.b,zI a0_0.sample.avail.c,.list false 280 (a0_0.sample.use.map bC),zB a0_0.fresh,zI a0_0.fuse,zB a0_0.dead]),(i0_0_0,[.list false 4 (a0_0_0.queue.l.map zB),zI a0_0_0.retries,hdM i0_0_0m2 pi0_0_0m2 a0_0_0.boxes si0_0_0m2,.list false 150 (a0_0_0.images.map aQ)]),(i0_0_0m2,lob pi0_0_0m2 aG a0_0_0.boxes si0_0_0m2),(i0_0_1,[.gptr i0_0_1_0 0,zI a0_0_1.version]),(i0_0_1_0,[.gmap i0_0_1_0_0,.list true 69 (a0_0_1_0.open_.map bG)]),(i0_0_1_0_0,aV keS (fun (x:List UInt8)=> .list false 5 (x.map zU8)) a0_0_1_0_0)]) rfl [(192,[],_),(186,[],_)] ⟨rfl,rfl,trivial⟩ (fun fr X hf=>?_) ?_
  ·exact rh 1 [2] [] rfl ⟨rfl,trivial⟩ (aW rfl)
  refine cfq rfl rfl (fun _ _ _=>rfl) ?_
  refine cfq rfl rfl (fun _ _ _=>rfl) ?_
  refine b6.nil ⟨by kernel_rfl,?_⟩
  refine rh 2 [2] [] rfl ⟨rfl,trivial⟩ (aC.done [0,170,171] [] rfl ?_)
  refine aA (rn 2 rfl (aC.done [0,170,171] [] rfl (crd (srd 1 rfl [0,170,171,172] [] rfl (aB (bD rfl (by decide) ?_))))))
  refine aE (aB (aF (srd 5 rfl [0,5,6,170,171] [6] rfl (b8 21 (by kernel_rfl) ?_))))
  refine cfq rfl rfl (fun _ _ _=>rfl) ?_
  refine cfq rfl rfl (fun _ _ _=>rfl) ?_
  refine cfq rfl rfl (fun _ _ _=>rfl) ?_
  refine b9 rfl [0] rfl (fun _ _=>rfl) ⟨rfl,trivial⟩ ?_
  refine cfq rfl rfl (fun _ _ _=>rfl) ?_
  refine cfq rfl rfl (fun _ _ _=>rfl) ?_
  refine cfq rfl rfl (fun _ _ _=>rfl) ?_
  refine cfq rfl rfl (fun _ _ _=>rfl) ?_
  refine b9 rfl [0] rfl (fun _ _=>rfl) ⟨rfl,trivial⟩ ?_
  refine cfq rfl rfl (fun _ _ _=>rfl) ?_
  refine cfq rfl rfl (fun _ _ _=>rfl) ?_
  refine cfp rfl [] [(6,_)] rfl ⟨rfl,trivial⟩ (fun _ _ _=>rfl) trivial ?_
  refine cfq rfl rfl (fun _ _ _=>rfl) ?_
  refine cfp rfl [] [(6,_)] rfl ⟨rfl,trivial⟩ (fun _ _ _=>rfl) trivial ?_
  refine cfq rfl rfl (fun _ _ _=>rfl) ?_
  refine cfq rfl rfl (fun _ _ _=>rfl) ?_
  refine cfq rfl rfl (fun _ _ _=>rfl) ?_
  refine cfq rfl rfl (fun _ _ _=>rfl) ?_
  refine cfo (wr:=[]) (O1:=[(i0,[.gptr i0_0 0,hdM m10 pm10 v9.2 sm10,.list false 4 (x4.map zB),zB x5,zB x6,zB x7]),(m10,lob pm10 bB v9.2 sm10),(i0_0,[zI a0_0.c.capacity.a,zI a0_0.c.capacity.b,zI a0_0.c.capacity.c,zI a0_0.c.allocatable.a,zI a0_0.c.allocatable.b,zI a0_0.c.allocatable.c,.list false 102 (a0_0.c.thresholds.map aL),zI a0_0.c.period,zI a0_0.c.retries,zI a0_0.c.maxAge,zI a0_0.c.dead,.gptr i0_0_0 0,.gptr i0_0_1 0,zI a0_0.state.round,.list false 83 (a0_0.state.pods.map aN),zB v9.1.a.on,zB v9.1.b.on,zB v9.1.c.on,.list false 3 (x8.map zI),zI v9.1.a.calm,zI v9.1.b.calm,zI a0_0.calm.c,zI a0_0.sample.time,zI a0_0.sample.avail.a,zI a0_0.sample.avail.b,zI a0_0.sample.avail.c,.list false 280 (a0_0.sample.use.map bC),zB a0_0.fresh,zI a0_0.fuse,zB a0_0.dead]),(i0_0_0,[.list false 4 (a0_0_0.queue.l.map zB),zI a0_0_0.retries,hdM i0_0_0m2 pi0_0_0m2 a0_0_0.boxes si0_0_0m2,.list false 150 (a0_0_0.images.map aQ)]),(i0_0_0m2,lob pi0_0_0m2 aG a0_0_0.boxes si0_0_0m2),(i0_0_1,[.gptr i0_0_1_0 0,zI a0_0_1.version]),(i0_0_1_0,[.gmap i0_0_1_0_0,.list true 69 (a0_0_1_0.open_.map bG)]),(i0_0_1_0_0,aV keS (fun (x:List UInt8)=> .list false 5 (x.map zU8)) a0_0_1_0_0)]) rfl [(192,[],_),(186,[],_)] ⟨rfl,rfl,trivial⟩ (fun fr X hf=>?_) ?_
  ·exact rh 1 [2] [] rfl ⟨rfl,trivial⟩ (aW rfl)
  refine cfq rfl rfl (fun _ _ _=>rfl) ?_
  refine cfq rfl rfl (fun _ _ _=>rfl) ?_
  refine b6.nil ⟨by kernel_rfl,?_⟩
  refine rh 2 [2] [] rfl ⟨rfl,trivial⟩ (aC.done [0,170,171] [] rfl ?_)
  refine aA (rn 2 rfl (aC.done [0,170,171] [] rfl (crd (srd 1 rfl [0,170,171,172] [] rfl (aB (dD rfl (by decide) ?_))))))
  refine CWp.exit ?_
  cases h
  exact ⟨.inr rfl,_,[0,0,0,0,0,0,0,0],_,_,rfl,rfl,rfl,m10,pm10,sm10,rfl,rfl⟩
def jG (x1:List (List UInt8)) (x2:List (List UInt8)):Option ((List (List UInt8))×(List (List UInt8))):=
  some (x1,x2)
def fW (a0_0:SAgent) (k290:(List (List UInt8))→(List (List UInt8))→Option ((List (List UInt8))×(List (List UInt8)))):Nat→Int→(List (List UInt8))→(List (List UInt8))→Option ((List (List UInt8))×(List (List UInt8)))
  |0,_,_,_=>none
  |m2+1,x3,x4,x5=>
   bif decide (x3<(a0_0.state.pods.length:Int)) then
     bO (idx a0_0.state.pods x3) fun v6=>
     bO (bM x4 [v6.pod.id]) fun v7=>
     bO (bM x5 [v6.pod.image]) fun v8=>
     (fW a0_0 k290 m2) (w64 (x3+1)) v7 v8
   else
     k290 x4 x5
def lM (_a0:Sround) (a0_0:SAgent) (_a0_0_0:SWorld) (_a0_0_1:SStore) (_a0_0_1_0:SDisk) (_a0_0_1_0_0:List ((List UInt8)×(List UInt8))):Option ((List (List UInt8))×(List (List UInt8))):=
  fW a0_0 jG aT 0 ([]:List (List UInt8)) ([]:List (List UInt8))
theorem uO {a0:Sround} {a0_0:SAgent} {a0_0_0:SWorld} {a0_0_1:SStore} {a0_0_1_0:SDisk} {a0_0_1_0_0:List ((List UInt8)×(List UInt8))} {i0 i0_0 i0_0_0 i0_0_1 i0_0_1_0 i0_0_1_0_0:Nat} {i0m1:Nat} {pi0m1 si0m1:Slk 4} {i0_0_0m2:Nat} {pi0_0_0m2 si0_0_0m2:Slk 4} {r:(List (List UInt8))×(List (List UInt8))} (h:lM a0 a0_0 a0_0_0 a0_0_1 a0_0_1_0 a0_0_1_0_0=some r):aO Tryz.prog 55 [.gptr i0 0] [(i0,[.gptr i0_0 0,hdM i0m1 pi0m1 a0.events si0m1,.list false 4 (a0.holds.map zB),zB a0.press.a,zB a0.press.b,zB a0.press.c]),(i0m1,lob pi0m1 bB a0.events si0m1),(i0_0,[zI a0_0.c.capacity.a,zI a0_0.c.capacity.b,zI a0_0.c.capacity.c,zI a0_0.c.allocatable.a,zI a0_0.c.allocatable.b,zI a0_0.c.allocatable.c,.list false 102 (a0_0.c.thresholds.map aL),zI a0_0.c.period,zI a0_0.c.retries,zI a0_0.c.maxAge,zI a0_0.c.dead,.gptr i0_0_0 0,.gptr i0_0_1 0,zI a0_0.state.round,.list false 83 (a0_0.state.pods.map aN),zB a0_0.state.on.a,zB a0_0.state.on.b,zB a0_0.state.on.c,.list false 3 (a0_0.since.map zI),zI a0_0.calm.a,zI a0_0.calm.b,zI a0_0.calm.c,zI a0_0.sample.time,zI a0_0.sample.avail.a,zI a0_0.sample.avail.b,zI a0_0.sample.avail.c,.list false 280 (a0_0.sample.use.map bC),zB a0_0.fresh,zI a0_0.fuse,zB a0_0.dead]),(i0_0_0,[.list false 4 (a0_0_0.queue.l.map zB),zI a0_0_0.retries,hdM i0_0_0m2 pi0_0_0m2 a0_0_0.boxes si0_0_0m2,.list false 150 (a0_0_0.images.map aQ)]),(i0_0_0m2,lob pi0_0_0m2 aG a0_0_0.boxes si0_0_0m2),(i0_0_1,[.gptr i0_0_1_0 0,zI a0_0_1.version]),(i0_0_1_0,[.gmap i0_0_1_0_0,.list true 69 (a0_0_1_0.open_.map bG)]),(i0_0_1_0_0,aV keS (fun (x:List UInt8)=> .list false 5 (x.map zU8)) a0_0_1_0_0)] (fun v outs=>v= .tuple [.list true 9 (r.1.map AV.str),.list true 9 (r.2.map AV.str)]∧outs=[(i0,[.gptr i0_0 0,hdM i0m1 pi0m1 a0.events si0m1,.list false 4 (a0.holds.map zB),zB a0.press.a,zB a0.press.b,zB a0.press.c]),(i0m1,lob pi0m1 bB a0.events si0m1),(i0_0,[zI a0_0.c.capacity.a,zI a0_0.c.capacity.b,zI a0_0.c.capacity.c,zI a0_0.c.allocatable.a,zI a0_0.c.allocatable.b,zI a0_0.c.allocatable.c,.list false 102 (a0_0.c.thresholds.map aL),zI a0_0.c.period,zI a0_0.c.retries,zI a0_0.c.maxAge,zI a0_0.c.dead,.gptr i0_0_0 0,.gptr i0_0_1 0,zI a0_0.state.round,.list false 83 (a0_0.state.pods.map aN),zB a0_0.state.on.a,zB a0_0.state.on.b,zB a0_0.state.on.c,.list false 3 (a0_0.since.map zI),zI a0_0.calm.a,zI a0_0.calm.b,zI a0_0.calm.c,zI a0_0.sample.time,zI a0_0.sample.avail.a,zI a0_0.sample.avail.b,zI a0_0.sample.avail.c,.list false 280 (a0_0.sample.use.map bC),zB a0_0.fresh,zI a0_0.fuse,zB a0_0.dead]),(i0_0_0,[.list false 4 (a0_0_0.queue.l.map zB),zI a0_0_0.retries,hdM i0_0_0m2 pi0_0_0m2 a0_0_0.boxes si0_0_0m2,.list false 150 (a0_0_0.images.map aQ)]),(i0_0_0m2,lob pi0_0_0m2 aG a0_0_0.boxes si0_0_0m2),(i0_0_1,[.gptr i0_0_1_0 0,zI a0_0_1.version]),(i0_0_1_0,[.gmap i0_0_1_0_0,.list true 69 (a0_0_1_0.open_.map bG)]),(i0_0_1_0_0,aV keS (fun (x:List UInt8)=> .list false 5 (x.map zU8)) a0_0_1_0_0)]):=by
  refine a8 Tryz.func55 rfl rfl rfl rfl fun base=>?_
  unfold lM at h
  refine srd 2 rfl [0] [] rfl (srd 2 rfl [0,4,5] [] rfl (aS (fun e=>∃x1 x2,e=⟨[(4,[],.list true 9 (x1.map AV.str)),(5,[],.list true 9 (x2.map AV.str))],[],[],[(i0,[.gptr i0_0 0,hdM i0m1 pi0m1 a0.events si0m1,.list false 4 (a0.holds.map zB),zB a0.press.a,zB a0.press.b,zB a0.press.c]),(i0m1,lob pi0m1 bB a0.events si0m1),(i0_0,[zI a0_0.c.capacity.a,zI a0_0.c.capacity.b,zI a0_0.c.capacity.c,zI a0_0.c.allocatable.a,zI a0_0.c.allocatable.b,zI a0_0.c.allocatable.c,.list false 102 (a0_0.c.thresholds.map aL),zI a0_0.c.period,zI a0_0.c.retries,zI a0_0.c.maxAge,zI a0_0.c.dead,.gptr i0_0_0 0,.gptr i0_0_1 0,zI a0_0.state.round,.list false 83 (a0_0.state.pods.map aN),zB a0_0.state.on.a,zB a0_0.state.on.b,zB a0_0.state.on.c,.list false 3 (a0_0.since.map zI),zI a0_0.calm.a,zI a0_0.calm.b,zI a0_0.calm.c,zI a0_0.sample.time,zI a0_0.sample.avail.a,zI a0_0.sample.avail.b,zI a0_0.sample.avail.c,.list false 280 (a0_0.sample.use.map bC),zB a0_0.fresh,zI a0_0.fuse,zB a0_0.dead]),(i0_0_0,[.list false 4 (a0_0_0.queue.l.map zB),zI a0_0_0.retries,hdM i0_0_0m2 pi0_0_0m2 a0_0_0.boxes si0_0_0m2,.list false 150 (a0_0_0.images.map aQ)]),(i0_0_0m2,lob pi0_0_0m2 aG a0_0_0.boxes si0_0_0m2),(i0_0_1,[.gptr i0_0_1_0 0,zI a0_0_1.version]),(i0_0_1_0,[.gmap i0_0_1_0_0,.list true 69 (a0_0_1_0.open_.map bG)]),(i0_0_1_0_0,aV keS (fun (x:List UInt8)=> .list false 5 (x.map zU8)) a0_0_1_0_0)],base⟩∧jG x1 x2=some r) ?_ ?_))
  ·refine aB (aA (rh 10 [0,2,a0_0.state.pods.length] [] rfl ⟨List.length_map ..,rfl,rfl,trivial⟩ (aC.done [4,5,15,16,17] [] rfl (aF (aU (fun m2 e=>∃x3 x4 x5,e=⟨[(4,[],.list true 9 (x4.map AV.str)),(5,[],.list true 9 (x5.map AV.str)),(15,[],.list false 83 (a0_0.state.pods.map aN)),(16,[],zI (a0_0.state.pods.length:Int)),(17,[],zI x3)],[],[],[(i0,[.gptr i0_0 0,hdM i0m1 pi0m1 a0.events si0m1,.list false 4 (a0.holds.map zB),zB a0.press.a,zB a0.press.b,zB a0.press.c]),(i0m1,lob pi0m1 bB a0.events si0m1),(i0_0,[zI a0_0.c.capacity.a,zI a0_0.c.capacity.b,zI a0_0.c.capacity.c,zI a0_0.c.allocatable.a,zI a0_0.c.allocatable.b,zI a0_0.c.allocatable.c,.list false 102 (a0_0.c.thresholds.map aL),zI a0_0.c.period,zI a0_0.c.retries,zI a0_0.c.maxAge,zI a0_0.c.dead,.gptr i0_0_0 0,.gptr i0_0_1 0,zI a0_0.state.round,.list false 83 (a0_0.state.pods.map aN),zB a0_0.state.on.a,zB a0_0.state.on.b,zB a0_0.state.on.c,.list false 3 (a0_0.since.map zI),zI a0_0.calm.a,zI a0_0.calm.b,zI a0_0.calm.c,zI a0_0.sample.time,zI a0_0.sample.avail.a,zI a0_0.sample.avail.b,zI a0_0.sample.avail.c,.list false 280 (a0_0.sample.use.map bC),zB a0_0.fresh,zI a0_0.fuse,zB a0_0.dead]),(i0_0_0,[.list false 4 (a0_0_0.queue.l.map zB),zI a0_0_0.retries,hdM i0_0_0m2 pi0_0_0m2 a0_0_0.boxes si0_0_0m2,.list false 150 (a0_0_0.images.map aQ)]),(i0_0_0m2,lob pi0_0_0m2 aG a0_0_0.boxes si0_0_0m2),(i0_0_1,[.gptr i0_0_1_0 0,zI a0_0_1.version]),(i0_0_1_0,[.gmap i0_0_1_0_0,.list true 69 (a0_0_1_0.open_.map bG)]),(i0_0_1_0_0,aV keS (fun (x:List UInt8)=> .list false 5 (x.map zU8)) a0_0_1_0_0)],base⟩∧fW a0_0 (jG) m2 x3 x4 x5=some r) aT ⟨_,_,_,rfl,h⟩ ?_ ?_)))))
   ·rintro m2 _ ⟨x3,x4,x5,rfl,h⟩
    rw [fW] at h
    refine srd 1 rfl [4,5,15,16,17,18] [] rfl (aB (aD h rfl (fun h=>?_) (fun h=>?_)))
    ·refine aE (aB (aF (aB (aA ?_))))
     obtain ⟨v6,hv6,h⟩:=bI h
     refine rd (rIx hv6) ?_
     refine rn 3 rfl (aC.done [4,5,7,15,16,17] [7] rfl (aB (aA ?_)))
     obtain ⟨v7,hv7,h⟩:=bI h
     refine rh 5 [] [21] rfl trivial (iG (f:=AV.str) hv7 ?_)
     refine rh 1 [] [4] rfl trivial (aC.done [4,5,7,15,16,17] [7] rfl ?_)
     refine aA ?_
     obtain ⟨v8,hv8,h⟩:=bI h
     refine rh 5 [] [27] rfl trivial (iG (f:=AV.str) hv8 ?_)
     refine rh 1 [] [5] rfl trivial (aC.done [4,5,15,16,17] [] rfl ?_)
     refine aA (rn 2 rfl (aC.done [4,5,15,16,17] [] rfl ?_))
     exact ⟨_,_,_,rfl,h⟩
    refine aR [4,5] [] rfl (CWp.exit ?_)
    exact ⟨_,_,rfl,h⟩
   rintro _ ⟨_,_,_,_,h⟩
   rw [fW] at h;cases h
  rintro _ ⟨x1,x2,rfl,h⟩
  unfold jG at h
  refine aB (aA (rh 4 [] [34,35,2,3] rfl trivial (aC.done [2,3] [] rfl ?_)))
  cases h;exact aJ ⟨.inl rfl,_,[0,0,0,0,0,0,0,0],_,_,rfl,rfl,rfl,rfl,rfl⟩
def jK (a0:List SImage):Option (List SImage):=bM [] a0
theorem rH {a0:List SImage} {r:List SImage} (h:jK a0=some r):aO Tryz.prog 116 [.list false 150 (a0.map aQ)] [] (fun v outs=>∃(m:Nat) (p s:Slk 3),v=hdM m p r s∧outs=[(m,lob p aQ r s)]):=by
  refine a8 Tryz.func116 rfl rfl rfl rfl fun base=>?_
  unfold jK at h
  refine srd 1 rfl [0] [] rfl (aB (aB (aA (rn 1 rfl (HN (fun b hb=>aC.done [0,4] [] rfl ?_))))))
  cases b with
  |true=>
   have ha:a0=[]:=by simpa using hb rfl
   subst ha
   cases h
   refine bD rfl (by decide) (aB (aA (lJ (α:=SImage) (sz:=3) 150 aQ ?_)))
   intro m
   exact aC.done [2] [] rfl (aJ ⟨.inl rfl,_,[0],_,_,rfl,rfl,rfl,m,Slk.nil,Slk.nil,rfl,rfl⟩)
  |false=>
   refine dD rfl (by decide) (aE (aB (aA (O4 (α:=SImage) (sz:=3) aQ ?_))))
   intro m
   refine rn 1 rfl ?_
   refine pS (f:=aQ) 0 (fun _=>⟨rfl,rfl,rfl⟩) h ?_
   intro m2 p2 s2
   refine rn 1 rfl (aC.done [2] [] rfl ?_)
   exact aJ ⟨.inl rfl,_,[0],_,_,rfl,rfl,rfl,m2,p2,s2,rfl,rfl⟩
def dG (a0:List SImage) (a1:List UInt8) (a2:SImage→(List UInt8)→Option Int):Option (Int×Bool):=
  bif decide (0<(a0.length:Int)) then
    bO (idx a0 0) fun v1=>
    bO (a2 v1 a1) fun v2=>
    some (0,v2==0)
  else
    some (0,false)
def cN (a0:List SImage) (a1:List UInt8) (a2:SImage→(List UInt8)→Option Int) (k290:Option (Int×Bool)):Nat→Int→Option (Int×Bool)
  |0,_=>none
  |m2+1,x1=>
   bif decide (0<x1) then
     bO (idx a0 (w64 (lH .u64 (IntKind.u64.wrap (w64 (0+x1))) 1))) fun v2=>
     bO (a2 v2 a1) fun v3=>
     bif decide (v3<0) then none else
     (cN a0 a1 a2 k290 m2) (w64 (lH .u64 (IntKind.u64.wrap (w64 (0+x1))) 1))
   else
     k290
def fS (a0:List SImage) (a1:List UInt8) (a2:SImage→(List UInt8)→Option Int):Option (Int×Bool):=
  cN a0 a1 a2 (dG a0 a1 a2) aT (a0.length:Int)
theorem rE {a0:List SImage} {a1:List UInt8} {a2:SImage→(List UInt8)→Option Int} {r:Int×Bool} {ins:Ob} {f2:Nat} {c2:List AV} (hp2:Fn2 Tryz.prog f2 c2 ins aQ AV.str zI a2) (h:fS a0 a1 a2=some r):aO Tryz.prog 215 [.list false 150 (a0.map aQ),.str a1,.fn f2 c2] ins (fun v outs=>v= .tuple [zI r.1,zB r.2]∧outs=ins):=by
  refine cL Tryz.func215 rfl rfl rfl rfl fun base=>?_
  unfold fS at h
  refine srd 2 rfl [0,1,2] [] rfl (aB (aA (rh 3 [a0.length] [] rfl ⟨List.length_map ..,trivial⟩ (aC.done [0,1,2,8] [] rfl (srd 3 rfl [0,1,2,8,9,10] [] rfl (aS (fun e=>e=⟨[(0,[],.list false 150 (a0.map aQ)),(1,[],.str a1),(2,[],.fn f2 c2),(8,[],zI (a0.length:Int)),(9,[],zI 0)],[],[],ins,base⟩∧dG a0 a1 a2=some r) ?_ ?_))))))
  ·refine aF (aU (fun m2 e=>∃x1,e=⟨[(0,[],.list false 150 (a0.map aQ)),(1,[],.str a1),(2,[],.fn f2 c2),(8,[],zI (a0.length:Int)),(9,[],zI 0),(10,[],zI x1)],[],[],ins,base⟩∧cN a0 a1 a2 (dG a0 a1 a2) m2 x1=some r) aT ⟨_,rfl,h⟩ ?_ ?_)
   ·rintro m2 _ ⟨x1,rfl,h⟩
    rw [cN] at h
    refine aB (srd 3 rfl [0,1,2,8,9,10,17] [] rfl (aD h rfl (fun h=>?_) (fun h=>?_)))
    ·refine aE (aF (srd 7 rfl [0,1,2,8,9,10,11] [] rfl (aB (aA ?_))))
     obtain ⟨v2,hv2,h⟩:=bI h
     refine rn 3 rfl (rd (rIx hv2) ?_)
     refine rn 2 rfl ?_
     obtain ⟨v3,hv3,h⟩:=bI h
     refine n0 hp2.1 (hp2.2 _ _ _ hv3) ?_
     rintro _ _ ⟨rfl,rfl⟩
     refine rn 1 rfl (aC.done [0,1,2,8,9,10,11,31] [] rfl (aD h rfl (fun h=>?_) (fun h=>?_)))
     ·cases h
     refine aA (rn 2 rfl (aC.done [0,1,2,8,9,10] [] rfl ?_))
     exact ⟨_,rfl,h⟩
    refine aR [0,1,2,8,9] [] rfl (CWp.exit ?_)
    exact ⟨rfl,h⟩
   rintro _ ⟨_,_,h⟩
   rw [cN] at h;cases h
  rintro _ ⟨rfl,h⟩
  unfold dG at h
  refine aB (aA (rn 5 rfl (nA 39 h rfl (fun h=>?_) (fun h=>?_))))
  ·refine aC.want ?_
   refine rn 1 rfl (aC.want ?_)
   refine rn 1 rfl (aC.want ?_)
   refine rn 1 rfl (aC.want ?_)
   obtain ⟨v1,hv1,h⟩:=bI h
   refine rd (rIx hv1) ?_
   refine aC.want ?_
   refine rn 1 rfl (aC.want ?_)
   refine rn 1 rfl (aC.want ?_)
   obtain ⟨v2,hv2,h⟩:=bI h
   refine n0 hp2.1 (hp2.2 _ _ _ hv2) ?_
   rintro _ _ ⟨rfl,rfl⟩
   refine aC.want ?_
   refine rn 1 rfl (rd (fP) ?_)
   refine rn 2 rfl (aC.done [6,7] [] rfl (aJ ?_))
   cases h
   exact ⟨.inl rfl,_,rfl,rfl,rfl,rfl⟩
  refine aX ?_
  refine aX ?_
  refine aX ?_
  refine aX ?_
  refine aX ?_
  refine aX ?_
  refine aX ?_
  refine aX ?_
  refine rd (fP) ?_
  refine rn 2 rfl (aC.done [6,7] [] rfl (aJ ?_))
  cases h
  exact ⟨.inl rfl,_,rfl,rfl,rfl,rfl⟩
def yS (a0:SImage) (a1:List UInt8):Option Int:=
  bO (CF a0.name a1) fun v1=>
  some v1
theorem I4 {a0:SImage} {a1:List UInt8} {r:Int} (h:yS a0 a1=some r):aI Tryz.prog 216 [aQ a0,.str a1] (zI r):=by
  refine aK Tryz.func216 rfl rfl rfl rfl fun base=>?_
  unfold yS at h
  refine srd 2 rfl [1,2] [2] rfl (aB (aA (rn 3 rfl ?_)))
  obtain ⟨v1,hv1,h⟩:=bI h
  refine aP Tryz.call143 (wN hv1) rfl ?_
  refine rn 1 rfl (aC.done [4] [] rfl ?_)
  cases h;exact aJ ⟨.inl rfl,rfl,rfl⟩
end
end Go.Proofs.YtoolgdcjfkjlnaaGreatDoor
