/- aGreatDoorM9. -/
import Derived.Test.YtoolgdcjfkjlnaaGreatDoorM8
import Derived.Test.YtoolgdcjfkjlnaaGreatDoorM7
import Derived.Test.YtoolgdcjfkjlnaaGreatDoorM6
import Derived.Test.YtoolgdcjfkjlnaaGreatDoorProg
set_option maxHeartbeats 2000000
namespace Go.Proofs.YtoolgdcjfkjlnaaGreatDoor
section
open Go.RowKit
theorem oK :aZ Tryz.prog 3 1:=by unfold aZ;kernel_rfl
theorem E0 :aZ Tryz.prog 41 3:=by unfold aZ;kernel_rfl
theorem EW :Tryz.prog.info? 262=some Tryz.t262:=by kernel_rfl
theorem C5 :(Tryz.prog.info? 334).map (·.zero)=some (some (.agg #[.int .i64 0,.int .i64 0])):=by kernel_rfl
def Q0 :List (List UInt8×List Nat):=[([99,97,112,97,99,105,116,121],[0,1,2]),([97,108,108,111,99,97,116,97,98,108,101],[3,4,5]),([112,101,114,105,111,100],[7]),([114,101,116,114,105,101,115],[8]),([109,97,120,97,103,101],[9]),([100,101,97,100],[10])]
set_option maxRecDepth 20000 in
theorem OT (i0:Nat) (M:Nat→Option (List AV)):bW Tryz.prog 89 [.gptr i0 0] M (fun r M'=>∃id T,r= .gmap id∧M id=none∧T.Perm Q0∧M'=bA M id (aV keS (fun (x:List Nat)=>AV.list false 262 (x.map fun k=> .gptr i0 k)) T)):=by
  refine bW.of Tryz.func89 rfl (n:=47) rfl rfl rfl ?_
  refine zg ?_
  refine zM (.lit (.map none)) ?_
  refine zN ?_
  refine AWp.seq (JX (κ:=List UInt8) (β:=List Nat) (ke:=keS) (vf:=(fun (x:List Nat)=>AV.list false 262 (x.map fun k=> .gptr i0 k))) [0,2] [] 0 (fun id=>[[(3,.gmap id)],[(4,.gptr i0 0)],[(5,.gptr i0 0)],[(6,.gptr i0 0)],[(7,.gptr i0 0)],[(8,.gptr i0 0)],[(9,.gptr i0 0)],[(10,.gptr i0 0)],[(11,.gptr i0 1)],[(12,.gptr i0 0)],[(13,.gptr i0 0)],[(14,.gptr i0 0)],[(15,.gptr i0 2)],[(16,.list true 262 [.gptr i0 0,.gptr i0 1,.gptr i0 2])],[],[(17,.gptr i0 0)],[(18,.gptr i0 0)],[(19,.gptr i0 3)],[(20,.gptr i0 3)],[(21,.gptr i0 0)],[(22,.gptr i0 0)],[(23,.gptr i0 3)],[(24,.gptr i0 4)],[(25,.gptr i0 0)],[(26,.gptr i0 0)],[(27,.gptr i0 3)],[(28,.gptr i0 5)],[(29,.list true 262 [.gptr i0 3,.gptr i0 4,.gptr i0 5])],[],[(30,.gptr i0 0)],[(31,.gptr i0 0)],[(32,.gptr i0 7)],[(33,.list true 262 [.gptr i0 7])],[],[(34,.gptr i0 0)],[(35,.gptr i0 0)],[(36,.gptr i0 8)],[(37,.list true 262 [.gptr i0 8])],[],[(38,.gptr i0 0)],[(39,.gptr i0 0)],[(40,.gptr i0 9)],[(41,.list true 262 [.gptr i0 9])],[],[(42,.gptr i0 0)],[(43,.gptr i0 0)],[(44,.gptr i0 10)],[(45,.list true 262 [.gptr i0 10])],[],[(46,.gmap id)],[(2,.gmap id)]]) (fun id=>[[],[(0,none,.gptr i0 0)],[(4,some 1,.gptr i0 0)],[(5,some 2,.gptr i0 0)],[(6,some 3,.gptr i0 0)],[(0,none,.gptr i0 0)],[(8,some 5,.gptr i0 0)],[(9,some 6,.gptr i0 0)],[(10,some 7,.gptr i0 0)],[(0,none,.gptr i0 0)],[(12,some 9,.gptr i0 0)],[(13,some 10,.gptr i0 0)],[(14,some 11,.gptr i0 0)],[(7,some 4,.gptr i0 0),(11,some 8,.gptr i0 1),(15,some 12,.gptr i0 2)],[(3,some 0,.gmap id),(16,some 13,.list true 262 [.gptr i0 0,.gptr i0 1,.gptr i0 2])],[(0,none,.gptr i0 0)],[(17,some 15,.gptr i0 0)],[(18,some 16,.gptr i0 0)],[(19,some 17,.gptr i0 3)],[(0,none,.gptr i0 0)],[(21,some 19,.gptr i0 0)],[(22,some 20,.gptr i0 0)],[(23,some 21,.gptr i0 3)],[(0,none,.gptr i0 0)],[(25,some 23,.gptr i0 0)],[(26,some 24,.gptr i0 0)],[(27,some 25,.gptr i0 3)],[(20,some 18,.gptr i0 3),(24,some 22,.gptr i0 4),(28,some 26,.gptr i0 5)],[(3,some 0,.gmap id),(29,some 27,.list true 262 [.gptr i0 3,.gptr i0 4,.gptr i0 5])],[(0,none,.gptr i0 0)],[(30,some 29,.gptr i0 0)],[(31,some 30,.gptr i0 0)],[(32,some 31,.gptr i0 7)],[(3,some 0,.gmap id),(33,some 32,.list true 262 [.gptr i0 7])],[(0,none,.gptr i0 0)],[(34,some 34,.gptr i0 0)],[(35,some 35,.gptr i0 0)],[(36,some 36,.gptr i0 8)],[(3,some 0,.gmap id),(37,some 37,.list true 262 [.gptr i0 8])],[(0,none,.gptr i0 0)],[(38,some 39,.gptr i0 0)],[(39,some 40,.gptr i0 0)],[(40,some 41,.gptr i0 9)],[(3,some 0,.gmap id),(41,some 42,.list true 262 [.gptr i0 9])],[(0,none,.gptr i0 0)],[(42,some 44,.gptr i0 0)],[(43,some 45,.gptr i0 0)],[(44,some 46,.gptr i0 10)],[(3,some 0,.gmap id),(45,some 47,.list true 262 [.gptr i0 10])],[(3,some 0,.gmap id)],[(46,some 49,.gmap id)]]) [(14,[99,97,112,97,99,105,116,121],[0,1,2]),(28,[97,108,108,111,99,97,116,97,98,108,101],[3,4,5]),(33,[112,101,114,105,111,100],[7]),(38,[114,101,116,114,105,101,115],[8]),(43,[109,97,120,97,103,101],[9]),(48,[100,101,97,100],[10])] ?_ ?_)
  ·refine hgN ?_
   refine hgV (fun id fr mem h=>?_) ?_
   ·obtain ⟨_h0,-⟩:=h
    refine zM (.gptr i0 0) ?_
    exact zN rfl
   refine hgV (fun id fr mem h=>?_) ?_
   ·obtain ⟨_h0,-⟩:=h
    refine zr (znc (.gptr i0 0)) ?_
    exact zN rfl
   refine hgV (fun id fr mem h=>?_) ?_
   ·obtain ⟨_h0,-⟩:=h
    refine zr (zfG Tryz.underlying53 E0) ?_
    exact zN rfl
   refine hgV (fun id fr mem h=>?_) ?_
   ·obtain ⟨_h0,-⟩:=h
    refine zr (ziG 0 Tryz.underlying41 oK) ?_
    exact zN rfl
   refine hgV (fun id fr mem h=>?_) ?_
   ·obtain ⟨_h0,-⟩:=h
    refine zM (.gptr i0 0) ?_
    exact zN rfl
   refine hgV (fun id fr mem h=>?_) ?_
   ·obtain ⟨_h0,-⟩:=h
    refine zr (znc (.gptr i0 0)) ?_
    exact zN rfl
   refine hgV (fun id fr mem h=>?_) ?_
   ·obtain ⟨_h0,-⟩:=h
    refine zr (zfG Tryz.underlying53 E0) ?_
    exact zN rfl
   refine hgV (fun id fr mem h=>?_) ?_
   ·obtain ⟨_h0,-⟩:=h
    refine zr (ziG 1 Tryz.underlying41 oK) ?_
    exact zN rfl
   refine hgV (fun id fr mem h=>?_) ?_
   ·obtain ⟨_h0,-⟩:=h
    refine zM (.gptr i0 0) ?_
    exact zN rfl
   refine hgV (fun id fr mem h=>?_) ?_
   ·obtain ⟨_h0,-⟩:=h
    refine zr (znc (.gptr i0 0)) ?_
    exact zN rfl
   refine hgV (fun id fr mem h=>?_) ?_
   ·obtain ⟨_h0,-⟩:=h
    refine zr (zfG Tryz.underlying53 E0) ?_
    exact zN rfl
   refine hgV (fun id fr mem h=>?_) ?_
   ·obtain ⟨_h0,-⟩:=h
    refine zr (ziG 2 Tryz.underlying41 oK) ?_
    exact zN rfl
   refine hgV (fun id fr mem h=>?_) ?_
   ·obtain ⟨_h0,_h1,_h2,-⟩:=h
    refine zbS [] [.gptr i0 0,.gptr i0 1,.gptr i0 2] Tryz.underlying259 EW ?_
    exact zN rfl
   refine hgI (ky:= .const (keS [99,97,112,97,99,105,116,121])) (vz:= .tmp 16) (fun _=>[(16,some 13,.list true 262 [.gptr i0 0,.gptr i0 1,.gptr i0 2])]) 0 (lE Tryz.underlying9) Tryz.underlying185 (fun _ _ _ _ _ _ _ _=>rfl) (fun id fr mem h=> .inl ⟨C2 h.1 rfl,rfl⟩) ?_
   refine hgV (fun id fr mem h=>?_) ?_
   ·obtain ⟨_h0,-⟩:=h
    refine zM (.gptr i0 0) ?_
    exact zN rfl
   refine hgV (fun id fr mem h=>?_) ?_
   ·obtain ⟨_h0,-⟩:=h
    refine zr (znc (.gptr i0 0)) ?_
    exact zN rfl
   refine hgV (fun id fr mem h=>?_) ?_
   ·obtain ⟨_h0,-⟩:=h
    refine zr (zfG Tryz.underlying53 E0) ?_
    exact zN rfl
   refine hgV (fun id fr mem h=>?_) ?_
   ·obtain ⟨_h0,-⟩:=h
    refine zr (ziG 0 Tryz.underlying41 oK) ?_
    exact zN rfl
   refine hgV (fun id fr mem h=>?_) ?_
   ·obtain ⟨_h0,-⟩:=h
    refine zM (.gptr i0 0) ?_
    exact zN rfl
   refine hgV (fun id fr mem h=>?_) ?_
   ·obtain ⟨_h0,-⟩:=h
    refine zr (znc (.gptr i0 0)) ?_
    exact zN rfl
   refine hgV (fun id fr mem h=>?_) ?_
   ·obtain ⟨_h0,-⟩:=h
    refine zr (zfG Tryz.underlying53 E0) ?_
    exact zN rfl
   refine hgV (fun id fr mem h=>?_) ?_
   ·obtain ⟨_h0,-⟩:=h
    refine zr (ziG 1 Tryz.underlying41 oK) ?_
    exact zN rfl
   refine hgV (fun id fr mem h=>?_) ?_
   ·obtain ⟨_h0,-⟩:=h
    refine zM (.gptr i0 0) ?_
    exact zN rfl
   refine hgV (fun id fr mem h=>?_) ?_
   ·obtain ⟨_h0,-⟩:=h
    refine zr (znc (.gptr i0 0)) ?_
    exact zN rfl
   refine hgV (fun id fr mem h=>?_) ?_
   ·obtain ⟨_h0,-⟩:=h
    refine zr (zfG Tryz.underlying53 E0) ?_
    exact zN rfl
   refine hgV (fun id fr mem h=>?_) ?_
   ·obtain ⟨_h0,-⟩:=h
    refine zr (ziG 2 Tryz.underlying41 oK) ?_
    exact zN rfl
   refine hgV (fun id fr mem h=>?_) ?_
   ·obtain ⟨_h0,_h1,_h2,-⟩:=h
    refine zbS [] [.gptr i0 3,.gptr i0 4,.gptr i0 5] Tryz.underlying259 EW ?_
    exact zN rfl
   refine hgI (ky:= .const (keS [97,108,108,111,99,97,116,97,98,108,101])) (vz:= .tmp 29) (fun _=>[(29,some 27,.list true 262 [.gptr i0 3,.gptr i0 4,.gptr i0 5])]) 1 (lE Tryz.underlying9) Tryz.underlying185 (fun _ _ _ _ _ _ _ _=>rfl) (fun id fr mem h=> .inl ⟨C2 h.1 rfl,rfl⟩) ?_
   refine hgV (fun id fr mem h=>?_) ?_
   ·obtain ⟨_h0,-⟩:=h
    refine zM (.gptr i0 0) ?_
    exact zN rfl
   refine hgV (fun id fr mem h=>?_) ?_
   ·obtain ⟨_h0,-⟩:=h
    refine zr (znc (.gptr i0 0)) ?_
    exact zN rfl
   refine hgV (fun id fr mem h=>?_) ?_
   ·obtain ⟨_h0,-⟩:=h
    refine zr (zfG Tryz.underlying53 oK) ?_
    exact zN rfl
   refine hgV (fun id fr mem h=>?_) ?_
   ·obtain ⟨_h0,-⟩:=h
    refine zbS [] [.gptr i0 7] Tryz.underlying259 EW ?_
    exact zN rfl
   refine hgI (ky:= .const (keS [112,101,114,105,111,100])) (vz:= .tmp 33) (fun _=>[(33,some 32,.list true 262 [.gptr i0 7])]) 2 (lE Tryz.underlying9) Tryz.underlying185 (fun _ _ _ _ _ _ _ _=>rfl) (fun id fr mem h=> .inl ⟨C2 h.1 rfl,rfl⟩) ?_
   refine hgV (fun id fr mem h=>?_) ?_
   ·obtain ⟨_h0,-⟩:=h
    refine zM (.gptr i0 0) ?_
    exact zN rfl
   refine hgV (fun id fr mem h=>?_) ?_
   ·obtain ⟨_h0,-⟩:=h
    refine zr (znc (.gptr i0 0)) ?_
    exact zN rfl
   refine hgV (fun id fr mem h=>?_) ?_
   ·obtain ⟨_h0,-⟩:=h
    refine zr (zfG Tryz.underlying53 oK) ?_
    exact zN rfl
   refine hgV (fun id fr mem h=>?_) ?_
   ·obtain ⟨_h0,-⟩:=h
    refine zbS [] [.gptr i0 8] Tryz.underlying259 EW ?_
    exact zN rfl
   refine hgI (ky:= .const (keS [114,101,116,114,105,101,115])) (vz:= .tmp 37) (fun _=>[(37,some 37,.list true 262 [.gptr i0 8])]) 3 (lE Tryz.underlying9) Tryz.underlying185 (fun _ _ _ _ _ _ _ _=>rfl) (fun id fr mem h=> .inl ⟨C2 h.1 rfl,rfl⟩) ?_
   refine hgV (fun id fr mem h=>?_) ?_
   ·obtain ⟨_h0,-⟩:=h
    refine zM (.gptr i0 0) ?_
    exact zN rfl
   refine hgV (fun id fr mem h=>?_) ?_
   ·obtain ⟨_h0,-⟩:=h
    refine zr (znc (.gptr i0 0)) ?_
    exact zN rfl
   refine hgV (fun id fr mem h=>?_) ?_
   ·obtain ⟨_h0,-⟩:=h
    refine zr (zfG Tryz.underlying53 oK) ?_
    exact zN rfl
   refine hgV (fun id fr mem h=>?_) ?_
   ·obtain ⟨_h0,-⟩:=h
    refine zbS [] [.gptr i0 9] Tryz.underlying259 EW ?_
    exact zN rfl
   refine hgI (ky:= .const (keS [109,97,120,97,103,101])) (vz:= .tmp 41) (fun _=>[(41,some 42,.list true 262 [.gptr i0 9])]) 4 (lE Tryz.underlying9) Tryz.underlying185 (fun _ _ _ _ _ _ _ _=>rfl) (fun id fr mem h=> .inl ⟨C2 h.1 rfl,rfl⟩) ?_
   refine hgV (fun id fr mem h=>?_) ?_
   ·obtain ⟨_h0,-⟩:=h
    refine zM (.gptr i0 0) ?_
    exact zN rfl
   refine hgV (fun id fr mem h=>?_) ?_
   ·obtain ⟨_h0,-⟩:=h
    refine zr (znc (.gptr i0 0)) ?_
    exact zN rfl
   refine hgV (fun id fr mem h=>?_) ?_
   ·obtain ⟨_h0,-⟩:=h
    refine zr (zfG Tryz.underlying53 oK) ?_
    exact zN rfl
   refine hgV (fun id fr mem h=>?_) ?_
   ·obtain ⟨_h0,-⟩:=h
    refine zbS [] [.gptr i0 10] Tryz.underlying259 EW ?_
    exact zN rfl
   refine hgI (ky:= .const (keS [100,101,97,100])) (vz:= .tmp 45) (fun _=>[(45,some 47,.list true 262 [.gptr i0 10])]) 5 (lE Tryz.underlying9) Tryz.underlying185 (fun _ _ _ _ _ _ _ _=>rfl) (fun id fr mem h=> .inl ⟨C2 h.1 rfl,rfl⟩) ?_
   refine hgV (fun id fr mem h=>?_) ?_
   ·obtain ⟨_h0,-⟩:=h
    refine zM (.gmap id) ?_
    exact zN rfl
   refine hgV (fun id fr mem h=>?_) ?_
   ·obtain ⟨_h0,-⟩:=h
    refine zM (.gmap id) ?_
    exact zN rfl
   exact hg0
  intro id T hid hT
  refine ⟨⟨[(0,.gptr i0 0),(2,.gmap id)],[],bA M id (aV keS (fun (x:List Nat)=>AV.list false 262 (x.map fun k=> .gptr i0 k)) T)⟩,rfl,?_⟩
  refine AWp.ret ?_
  exact ⟨.inl rfl,_,ResOf.one 2 (.gmap id) rfl rfl,⟨id,T,rfl,hid,hT,rfl⟩⟩
theorem KF {i0:Nat} {cells:List AV}:aO Tryz.prog 89 [.gptr i0 0] [(i0,cells)] (fun v outs=>∃(h0_:Nat) (T:List (List UInt8×List Nat)),(∀k,cO k T=cO k Q0)∧T.length=6∧v= .gmap h0_∧outs=[(h0_,aV keS (fun (x:List Nat)=>AV.list false 262 (x.map fun k=> .gptr i0 k)) T),(i0,cells)]):=by
  intro base hnd
  refine (OT i0 (lay [(i0,cells)] base)).mono ?_
  rintro r M' ⟨id,T,rfl,hid,hT,rfl⟩
  exact ⟨_,⟨id,T,J8 hT (by decide),hT.length_eq,rfl,rfl⟩,rfl,ND hnd hid⟩
theorem uE :KeyT Tryz.prog 334 uD:=W8 Tryz.underlying334 Tryz.underlying3 (fun w=>by have:=oK;unfold aZ at this;exact Q8 this w) (fun w=>R6 Tryz.underlying3 rfl w) (fun a b c d=>by kernel_rfl)
def qT :List ((Int×Int)×Int):=[((1,1),2),((2,2),3),((3,3),4),((1,4),5),((2,4),5),((4,4),5),((6,4),5)]
set_option maxRecDepth 20000 in
theorem OG (M:Nat→Option (List AV)):bW Tryz.prog 219 [] M (fun r M'=>∃id T,r= .gmap id∧M id=none∧T.Perm qT∧M'=bA M id (aV uD zI T)):=by
  refine bW.of Tryz.func219 rfl (n:=10) rfl rfl rfl ?_
  refine zg ?_
  refine zM (.lit (.map none)) ?_
  refine zN ?_
  refine AWp.seq (JX (κ:=(Int×Int)) (β:=Int) (ke:=uD) (vf:=zI) [0] [] 0 (fun id=>[[(1,.gmap id)],[(2,.agg [zI 1,zI 1])],[],[(3,.agg [zI 2,zI 2])],[],[(4,.agg [zI 3,zI 3])],[],[(5,.agg [zI 1,zI 4])],[],[(6,.agg [zI 2,zI 4])],[],[(7,.agg [zI 4,zI 4])],[],[(8,.agg [zI 6,zI 4])],[],[(9,.gmap id)],[(0,.gmap id)]]) (fun id=>[[],[],[(1,some 0,.gmap id),(2,some 1,.agg [zI 1,zI 1])],[],[(1,some 0,.gmap id),(3,some 3,.agg [zI 2,zI 2])],[],[(1,some 0,.gmap id),(4,some 5,.agg [zI 3,zI 3])],[],[(1,some 0,.gmap id),(5,some 7,.agg [zI 1,zI 4])],[],[(1,some 0,.gmap id),(6,some 9,.agg [zI 2,zI 4])],[],[(1,some 0,.gmap id),(7,some 11,.agg [zI 4,zI 4])],[],[(1,some 0,.gmap id),(8,some 13,.agg [zI 6,zI 4])],[(1,some 0,.gmap id)],[(9,some 15,.gmap id)]]) [(2,(1,1),2),(4,(2,2),3),(6,(3,3),4),(8,(1,4),5),(10,(2,4),5),(12,(4,4),5),(14,(6,4),5)] ?_ ?_)
  ·refine hgN ?_
   refine hgV (fun id fr mem h=>?_) ?_
   ·skip
    refine zr (gE (xs:=[(0,zI 1),(1,zI 1)]) (Es:=[]) rfl Tryz.underlying334 oK (dQ.of (by repeat' first|exact pl0|refine pl1 ?_ rfl rfl rfl rfl rfl)) C5 rfl (cs:=[zI 1,zI 1]) rfl) ?_
    exact zN rfl
   refine hgI (ky:= .tmp 2) (vz:= .const (.int .i64 2)) (fun _=>[(2,some 1,.agg [zI 1,zI 1])]) 0 (uE) Tryz.underlying332 (fun id fr mem h G a w hr=>hr.evAgg h.1 ⟨_,rfl⟩ rfl) (fun id fr mem h=> .inl ⟨rfl,rfl⟩) ?_
   refine hgV (fun id fr mem h=>?_) ?_
   ·skip
    refine zr (gE (xs:=[(0,zI 2),(1,zI 2)]) (Es:=[]) rfl Tryz.underlying334 oK (dQ.of (by repeat' first|exact pl0|refine pl1 ?_ rfl rfl rfl rfl rfl)) C5 rfl (cs:=[zI 2,zI 2]) rfl) ?_
    exact zN rfl
   refine hgI (ky:= .tmp 3) (vz:= .const (.int .i64 3)) (fun _=>[(3,some 3,.agg [zI 2,zI 2])]) 1 (uE) Tryz.underlying332 (fun id fr mem h G a w hr=>hr.evAgg h.1 ⟨_,rfl⟩ rfl) (fun id fr mem h=> .inl ⟨rfl,rfl⟩) ?_
   refine hgV (fun id fr mem h=>?_) ?_
   ·skip
    refine zr (gE (xs:=[(0,zI 3),(1,zI 3)]) (Es:=[]) rfl Tryz.underlying334 oK (dQ.of (by repeat' first|exact pl0|refine pl1 ?_ rfl rfl rfl rfl rfl)) C5 rfl (cs:=[zI 3,zI 3]) rfl) ?_
    exact zN rfl
   refine hgI (ky:= .tmp 4) (vz:= .const (.int .i64 4)) (fun _=>[(4,some 5,.agg [zI 3,zI 3])]) 2 (uE) Tryz.underlying332 (fun id fr mem h G a w hr=>hr.evAgg h.1 ⟨_,rfl⟩ rfl) (fun id fr mem h=> .inl ⟨rfl,rfl⟩) ?_
   refine hgV (fun id fr mem h=>?_) ?_
   ·skip
    refine zr (gE (xs:=[(0,zI 1),(1,zI 4)]) (Es:=[]) rfl Tryz.underlying334 oK (dQ.of (by repeat' first|exact pl0|refine pl1 ?_ rfl rfl rfl rfl rfl)) C5 rfl (cs:=[zI 1,zI 4]) rfl) ?_
    exact zN rfl
   refine hgI (ky:= .tmp 5) (vz:= .const (.int .i64 5)) (fun _=>[(5,some 7,.agg [zI 1,zI 4])]) 3 (uE) Tryz.underlying332 (fun id fr mem h G a w hr=>hr.evAgg h.1 ⟨_,rfl⟩ rfl) (fun id fr mem h=> .inl ⟨rfl,rfl⟩) ?_
   refine hgV (fun id fr mem h=>?_) ?_
   ·skip
    refine zr (gE (xs:=[(0,zI 2),(1,zI 4)]) (Es:=[]) rfl Tryz.underlying334 oK (dQ.of (by repeat' first|exact pl0|refine pl1 ?_ rfl rfl rfl rfl rfl)) C5 rfl (cs:=[zI 2,zI 4]) rfl) ?_
    exact zN rfl
   refine hgI (ky:= .tmp 6) (vz:= .const (.int .i64 5)) (fun _=>[(6,some 9,.agg [zI 2,zI 4])]) 4 (uE) Tryz.underlying332 (fun id fr mem h G a w hr=>hr.evAgg h.1 ⟨_,rfl⟩ rfl) (fun id fr mem h=> .inl ⟨rfl,rfl⟩) ?_
   refine hgV (fun id fr mem h=>?_) ?_
   ·skip
    refine zr (gE (xs:=[(0,zI 4),(1,zI 4)]) (Es:=[]) rfl Tryz.underlying334 oK (dQ.of (by repeat' first|exact pl0|refine pl1 ?_ rfl rfl rfl rfl rfl)) C5 rfl (cs:=[zI 4,zI 4]) rfl) ?_
    exact zN rfl
   refine hgI (ky:= .tmp 7) (vz:= .const (.int .i64 5)) (fun _=>[(7,some 11,.agg [zI 4,zI 4])]) 5 (uE) Tryz.underlying332 (fun id fr mem h G a w hr=>hr.evAgg h.1 ⟨_,rfl⟩ rfl) (fun id fr mem h=> .inl ⟨rfl,rfl⟩) ?_
   refine hgV (fun id fr mem h=>?_) ?_
   ·skip
    refine zr (gE (xs:=[(0,zI 6),(1,zI 4)]) (Es:=[]) rfl Tryz.underlying334 oK (dQ.of (by repeat' first|exact pl0|refine pl1 ?_ rfl rfl rfl rfl rfl)) C5 rfl (cs:=[zI 6,zI 4]) rfl) ?_
    exact zN rfl
   refine hgI (ky:= .tmp 8) (vz:= .const (.int .i64 5)) (fun _=>[(8,some 13,.agg [zI 6,zI 4])]) 6 (uE) Tryz.underlying332 (fun id fr mem h G a w hr=>hr.evAgg h.1 ⟨_,rfl⟩ rfl) (fun id fr mem h=> .inl ⟨rfl,rfl⟩) ?_
   refine hgV (fun id fr mem h=>?_) ?_
   ·obtain ⟨_h0,-⟩:=h
    refine zM (.gmap id) ?_
    exact zN rfl
   refine hgV (fun id fr mem h=>?_) ?_
   ·obtain ⟨_h0,-⟩:=h
    refine zM (.gmap id) ?_
    exact zN rfl
   exact hg0
  intro id T hid hT
  refine ⟨⟨[(0,.gmap id)],[],bA M id (aV uD zI T)⟩,rfl,?_⟩
  refine AWp.ret ?_
  exact ⟨.inl rfl,_,ResOf.one 0 (.gmap id) rfl rfl,⟨id,T,rfl,hid,hT,rfl⟩⟩
theorem J1 :aO Tryz.prog 219 [] [] (fun v outs=>∃(h0_:Nat) (T:List ((Int×Int)×Int)),(∀k,cO k T=cO k qT)∧T.length=7∧v= .gmap h0_∧outs=[(h0_,aV uD zI T)]):=by
  intro base hnd
  refine (OG (lay [] base)).mono ?_
  rintro r M' ⟨id,T,rfl,hid,hT,rfl⟩
  exact ⟨_,⟨id,T,J8 hT (by decide),hT.length_eq,rfl,rfl⟩,rfl,ND hnd hid⟩
end
section
open Go.RowKit
structure SThreshold where
  signal:Int
  percent:Int
  amount:Int
  soft:Bool
  grace:Int
  deriving Inhabited
abbrev OI (x:SThreshold):List AV:=[zI x.signal,zI x.percent,zI x.amount,zB x.soft,zI x.grace]
abbrev aL (x:SThreshold):AV:= .agg (OI x)
structure SConfig where
  capacity:V3 Int
  allocatable:V3 Int
  thresholds:List SThreshold
  period:Int
  retries:Int
  maxAge:Int
  dead:Int
  deriving Inhabited
abbrev S7 (x:SConfig):List AV:=[zI x.capacity.a,zI x.capacity.b,zI x.capacity.c,zI x.allocatable.a,zI x.allocatable.b,zI x.allocatable.c,.list false 102 (x.thresholds.map aL),zI x.period,zI x.retries,zI x.maxAge,zI x.dead]
abbrev gW (x:SConfig):AV:= .agg (S7 x)
structure SOp where
  kind:Int
  name:List UInt8
  to_:List UInt8
  bytes:List UInt8
  deriving Inhabited
abbrev XD (x:SOp):List AV:=[zI x.kind,.str x.name,.str x.to_,.list false 5 (x.bytes.map zU8)]
abbrev bG (x:SOp):AV:= .agg (XD x)
structure SDisk where
  open_:List SOp
  deriving Inhabited
structure SBox where
  state:Int
  tries:Int
  deriving Inhabited
abbrev W0 (x:SBox):List AV:=[zI x.state,zI x.tries]
abbrev CH (x:SBox):AV:= .agg (W0 x)
structure SContainer where
  id:List UInt8
  box:SBox
  last:Int
  deriving Inhabited
abbrev OH (x:SContainer):List AV:=[.str x.id,zI x.box.state,zI x.box.tries,zI x.last]
abbrev aG (x:SContainer):AV:= .agg (OH x)
structure SImage where
  name:List UInt8
  size:Int
  last:Int
  deriving Inhabited
abbrev U3 (x:SImage):List AV:=[.str x.name,zI x.size,zI x.last]
abbrev aQ (x:SImage):AV:= .agg (U3 x)
structure Squeue where
  l:List Bool
  deriving Inhabited
structure SWorld where
  queue:Squeue
  retries:Int
  boxes:List SContainer
  images:List SImage
  deriving Inhabited
structure SField where
  text:List UInt8
  line:Int
  col:Int
  deriving Inhabited
abbrev U2 (x:SField):List AV:=[.str x.text,zI x.line,zI x.col]
abbrev eC (x:SField):AV:= .agg (U2 x)
def W6 (x:SConfig):Nat→Option Int
  |0=>some x.capacity.a
  |1=>some x.capacity.b
  |2=>some x.capacity.c
  |3=>some x.allocatable.a
  |4=>some x.allocatable.b
  |5=>some x.allocatable.c
  |7=>some x.period
  |8=>some x.retries
  |9=>some x.maxAge
  |10=>some x.dead
  |_=>none
def CY (x:SConfig) (n:Int):Nat→Option SConfig
  |0=>some (⟨(⟨n,x.capacity.b,x.capacity.c⟩:V3 Int),x.allocatable,x.thresholds,x.period,x.retries,x.maxAge,x.dead⟩:SConfig)
  |1=>some (⟨(⟨x.capacity.a,n,x.capacity.c⟩:V3 Int),x.allocatable,x.thresholds,x.period,x.retries,x.maxAge,x.dead⟩:SConfig)
  |2=>some (⟨(⟨x.capacity.a,x.capacity.b,n⟩:V3 Int),x.allocatable,x.thresholds,x.period,x.retries,x.maxAge,x.dead⟩:SConfig)
  |3=>some (⟨x.capacity,(⟨n,x.allocatable.b,x.allocatable.c⟩:V3 Int),x.thresholds,x.period,x.retries,x.maxAge,x.dead⟩:SConfig)
  |4=>some (⟨x.capacity,(⟨x.allocatable.a,n,x.allocatable.c⟩:V3 Int),x.thresholds,x.period,x.retries,x.maxAge,x.dead⟩:SConfig)
  |5=>some (⟨x.capacity,(⟨x.allocatable.a,x.allocatable.b,n⟩:V3 Int),x.thresholds,x.period,x.retries,x.maxAge,x.dead⟩:SConfig)
  |7=>some (⟨x.capacity,x.allocatable,x.thresholds,n,x.retries,x.maxAge,x.dead⟩:SConfig)
  |8=>some (⟨x.capacity,x.allocatable,x.thresholds,x.period,n,x.maxAge,x.dead⟩:SConfig)
  |9=>some (⟨x.capacity,x.allocatable,x.thresholds,x.period,x.retries,n,x.dead⟩:SConfig)
  |10=>some (⟨x.capacity,x.allocatable,x.thresholds,x.period,x.retries,x.maxAge,n⟩:SConfig)
  |_=>none
abbrev UX (x:V16 Int):List AV:=[.lit (.int .u32 x.a),.lit (.int .u32 x.b),.lit (.int .u32 x.c),.lit (.int .u32 x.d),.lit (.int .u32 x.e),.lit (.int .u32 x.f),.lit (.int .u32 x.g),.lit (.int .u32 x.h),.lit (.int .u32 x.i),.lit (.int .u32 x.j),.lit (.int .u32 x.k),.lit (.int .u32 x.l),.lit (.int .u32 x.m),.lit (.int .u32 x.n),.lit (.int .u32 x.o),.lit (.int .u32 x.p)]
abbrev U9 (x:V16 Int):AV:= .agg (UX x)
structure SStore where
  version:Int
  deriving Inhabited
structure Sreader where
  b:List UInt8
  bad:Bool
  deriving Inhabited
structure SPod where
  id:List UInt8
  prio:Int
  critical:Bool
  req:V3 Int
  lim:V3 Int
  image:List UInt8
  size:Int
  deriving Inhabited
abbrev W1 (x:SPod):List AV:=[.str x.id,zI x.prio,zB x.critical,zI x.req.a,zI x.req.b,zI x.req.c,zI x.lim.a,zI x.lim.b,zI x.lim.c,.str x.image,zI x.size]
abbrev cI (x:SPod):AV:= .agg (W1 x)
structure SEntry where
  pod:SPod
  phase:Int
  deriving Inhabited
abbrev U1 (x:SEntry):List AV:=[.str x.pod.id,zI x.pod.prio,zB x.pod.critical,zI x.pod.req.a,zI x.pod.req.b,zI x.pod.req.c,zI x.pod.lim.a,zI x.pod.lim.b,zI x.pod.lim.c,.str x.pod.image,zI x.pod.size,zI x.phase]
abbrev aN (x:SEntry):AV:= .agg (U1 x)
structure SState where
  round:Int
  pods:List SEntry
  on:V3 Bool
  deriving Inhabited
abbrev U4 (x:SState):List AV:=[zI x.round,.list false 83 (x.pods.map aN),zB x.on.a,zB x.on.b,zB x.on.c]
abbrev e9 (x:SState):AV:= .agg (U4 x)
abbrev VY (x:V3 Int):List AV:=[zI x.a,zI x.b,zI x.c]
abbrev wP (x:V3 Int):AV:= .agg (VY x)
structure SUse where
  id:List UInt8
  amount:V3 Int
  deriving Inhabited
abbrev W4 (x:SUse):List AV:=[.str x.id,zI x.amount.a,zI x.amount.b,zI x.amount.c]
abbrev bC (x:SUse):AV:= .agg (W4 x)
structure SSample where
  time:Int
  avail:V3 Int
  use:List SUse
  deriving Inhabited
abbrev S8 (x:SSample):List AV:=[zI x.time,zI x.avail.a,zI x.avail.b,zI x.avail.c,.list false 280 (x.use.map bC)]
abbrev r8 (x:SSample):AV:= .agg (S8 x)
structure SAgent where
  c:SConfig
  state:SState
  since:List Int
  calm:V3 Int
  sample:SSample
  fresh:Bool
  fuse:Int
  dead:Bool
  deriving Inhabited
structure SNode where
  text:List UInt8
  deriving Inhabited
abbrev O3 (x:V3 Bool):List AV:=[zB x.a,zB x.b,zB x.c]
abbrev xZ (x:V3 Bool):AV:= .agg (O3 x)
structure SVerdict where
  kind:Int
  signal:Int
  go_:List (List UInt8)
  deriving Inhabited
abbrev RV (x:SVerdict):List AV:=[zI x.kind,zI x.signal,.list false 9 (x.go_.map AV.str)]
abbrev J4 (x:SVerdict):AV:= .agg (RV x)
def IW (x:SPod):Nat→Option Int
  |1=>some x.prio
  |3=>some x.req.a
  |4=>some x.req.b
  |5=>some x.req.c
  |6=>some x.lim.a
  |7=>some x.lim.b
  |8=>some x.lim.c
  |10=>some x.size
  |_=>none
structure SEvent where
  kind:Int
  id:List UInt8
  signal:Int
  n:Int
  deriving Inhabited
abbrev O5 (x:SEvent):List AV:=[zI x.kind,.str x.id,zI x.signal,zI x.n]
abbrev bB (x:SEvent):AV:= .agg (O5 x)
structure SCond where
  on:Bool
  calm:Int
  deriving Inhabited
abbrev V4 (x:SCond):List AV:=[zB x.on,zI x.calm]
abbrev s6 (x:SCond):AV:= .agg (V4 x)
abbrev S4 (x:V3 SCond):List AV:=[zB x.a.on,zI x.a.calm,zB x.b.on,zI x.b.calm,zB x.c.on,zI x.c.calm]
abbrev FY (x:V3 SCond):AV:= .agg (S4 x)
structure Sround where
  events:List SEvent
  holds:List Bool
  press:V3 Bool
  deriving Inhabited
structure Skey where
  within:Int
  prio:Int
  excess:Int
  id:List UInt8
  deriving Inhabited
abbrev W5 (x:Skey):List AV:=[zI x.within,zI x.prio,zI x.excess,.str x.id]
abbrev pT (x:Skey):AV:= .agg (W5 x)
abbrev VZ (x:V3 Nat):List AV:=[zF x.a,zF x.b,zF x.c]
abbrev V8 (x:V3 Nat):AV:= .agg (VZ x)
structure SUsage where
  id:List UInt8
  amount:V3 Nat
  deriving Inhabited
abbrev U5 (x:SUsage):List AV:=[.str x.id,zF x.amount.a,zF x.amount.b,zF x.amount.c]
abbrev BO (x:SUsage):AV:= .agg (U5 x)
structure SRaw where
  time:Int
  avail:V3 Nat
  use:List SUsage
  deriving Inhabited
abbrev W2 (x:SRaw):List AV:=[zI x.time,zF x.avail.a,zF x.avail.b,zF x.avail.c,.list false 278 (x.use.map BO)]
abbrev QM (x:SRaw):AV:= .agg (W2 x)
def VR (a:SEvent):List Value:=[.int .i64 a.kind,.string ⟨a.id.toArray⟩,.int .i64 a.signal,.int .i64 a.n]
def cG (a b:SEvent):Bool:=((a.kind==b.kind)&&((a.id==b.id)&&((a.signal==b.signal)&&((a.n==b.n)&&true))))
def VQ (a:(V3 Bool)):List Value:=[.bool a.a,.bool a.b,.bool a.c]
def PP (a b:(V3 Bool)):Bool:=((a.a==b.a)&&((a.b==b.b)&&((a.c==b.c)&&true)))
def WQ :Tab:=[(1,.other,1),(3,.int .i64,1),(4,.bool,1),(5,.int .u8,1),(9,.str,1),(23,.slice 5,1),(24,.ptr 113,1),(25,.ptr 119,1),(26,.ptr 76,1),(28,.struct [(0,23),(1,24),(2,25),(3,26)],4),(31,.slice 45,1),(32,.int .i64,1),(35,.slice 83,1),(36,.arr 3 4,3),(38,.struct [(0,3),(1,35),(2,36)],5),(41,.arr 3 3,3),(43,.struct [(0,9),(1,3),(2,4),(3,41),(6,41),(9,9),(10,3)],11),(45,.struct [(0,3),(1,9),(2,3),(3,3)],4),(51,.slice 102,1),(53,.struct [(0,41),(3,41),(6,51),(7,3),(8,3),(9,3),(10,3)],11),(56,.float .f64,1),(57,.arr 3 56,3),(58,.slice 278,1),(60,.struct [(0,3),(1,57),(4,58)],5),(69,.struct [(0,3),(1,9),(2,9),(3,23)],4),(70,.ptr 191,1),(71,.slice 3,1),(72,.slice 280,1),(74,.struct [(0,3),(1,41),(4,72)],5),(76,.struct [(0,53),(11,25),(12,70),(13,38),(18,71),(19,41),(22,74),(27,4),(28,3),(29,4)],30),(77,.ptr 80,1),(78,.slice 4,1),(80,.struct [(0,26),(1,31),(2,78),(3,36)],6),(83,.struct [(0,43),(11,3)],12),(86,.slice 9,1),(88,.struct [(0,3),(1,3),(2,86)],3),(102,.struct [(0,3),(1,3),(2,3),(3,4),(4,3)],5),(110,.other,1),(111,.slice 69,1),(113,.struct [(0,110),(1,111)],2),(115,.struct [(0,78)],1),(116,.slice 214,1),(117,.slice 150,1),(119,.struct [(0,115),(1,3),(2,116),(3,117)],4),(130,.struct [(0,4),(1,3)],2),(131,.arr 3 130,6),(150,.struct [(0,9),(1,3),(2,3)],3),(153,.other,1),(157,.struct [(0,3),(1,3)],2),(171,.slice 43,1),(176,.slice 180,1),(179,.other,1),(180,.slice 184,1),(182,.ptr 53,1),(184,.struct [(0,9),(1,3),(2,3)],3),(185,.other,1),(191,.struct [(0,24),(1,3)],2),(194,.ptr 196,1),(196,.struct [(0,23),(1,4)],2),(197,.int .u64,1),(205,.int .u32,1),(214,.struct [(0,9),(1,157),(3,3)],4),(225,.other,1),(229,.slice 232,1),(232,.struct [(0,3),(1,3),(2,3),(3,9)],4),(234,.other,1),(243,.slice 1,1),(252,.other,1),(259,.slice 262,1),(262,.ptr 3,1),(265,.other,1),(280,.struct [(0,9),(1,41)],4),(282,.other,1),(283,.int .u64,1),(288,.other,1),(300,.other,1),(305,.ptr 43,1),(309,.struct [(0,41),(3,41)],6),(312,.other,1),(330,.other,1),(334,.arr 2 3,2),(352,.slice 23,1),(394,.other,1),(409,.slice 413,1),(413,.struct [(0,9),(1,3)],2),(426,.arr 16 205,16)]
theorem VN :eX Tryz.prog WQ:=⟨bJ Tryz.underlying1 rfl (by kernel_rfl),bJ Tryz.underlying3 rfl (by kernel_rfl),bJ Tryz.underlying4 rfl (by kernel_rfl),bJ Tryz.underlying5 rfl (by kernel_rfl),bJ Tryz.underlying9 rfl (by kernel_rfl),bJ Tryz.underlying23 rfl (by kernel_rfl),bJ Tryz.underlying24 rfl (by kernel_rfl),bJ Tryz.underlying25 rfl (by kernel_rfl),bJ Tryz.underlying26 rfl (by kernel_rfl),bJ Tryz.underlying28 rfl (by kernel_rfl),bJ Tryz.underlying31 rfl (by kernel_rfl),bJ Tryz.underlying32 rfl (by kernel_rfl),bJ Tryz.underlying35 rfl (by kernel_rfl),bJ Tryz.underlying36 rfl (by kernel_rfl),bJ Tryz.underlying38 rfl (by kernel_rfl),bJ Tryz.underlying41 rfl (by kernel_rfl),bJ Tryz.underlying43 rfl (by kernel_rfl),bJ Tryz.underlying45 rfl (by kernel_rfl),bJ Tryz.underlying51 rfl (by kernel_rfl),bJ Tryz.underlying53 rfl (by kernel_rfl),bJ Tryz.underlying56 rfl (by kernel_rfl),bJ Tryz.underlying57 rfl (by kernel_rfl),bJ Tryz.underlying58 rfl (by kernel_rfl),bJ Tryz.underlying60 rfl (by kernel_rfl),bJ Tryz.underlying69 rfl (by kernel_rfl),bJ Tryz.underlying70 rfl (by kernel_rfl),bJ Tryz.underlying71 rfl (by kernel_rfl),bJ Tryz.underlying72 rfl (by kernel_rfl),bJ Tryz.underlying74 rfl (by kernel_rfl),bJ Tryz.underlying76 rfl (by kernel_rfl),bJ Tryz.underlying77 rfl (by kernel_rfl),bJ Tryz.underlying78 rfl (by kernel_rfl),bJ Tryz.underlying80 rfl (by kernel_rfl),bJ Tryz.underlying83 rfl (by kernel_rfl),bJ Tryz.underlying86 rfl (by kernel_rfl),bJ Tryz.underlying88 rfl (by kernel_rfl),bJ Tryz.underlying102 rfl (by kernel_rfl),bJ Tryz.underlying110 rfl (by kernel_rfl),bJ Tryz.underlying111 rfl (by kernel_rfl),bJ Tryz.underlying113 rfl (by kernel_rfl),bJ Tryz.underlying115 rfl (by kernel_rfl),bJ Tryz.underlying116 rfl (by kernel_rfl),bJ Tryz.underlying117 rfl (by kernel_rfl),bJ Tryz.underlying119 rfl (by kernel_rfl),bJ Tryz.underlying130 rfl (by kernel_rfl),bJ Tryz.underlying131 rfl (by kernel_rfl),bJ Tryz.underlying150 rfl (by kernel_rfl),bJ Tryz.underlying153 rfl (by kernel_rfl),bJ Tryz.underlying157 rfl (by kernel_rfl),bJ Tryz.underlying171 rfl (by kernel_rfl),bJ Tryz.underlying176 rfl (by kernel_rfl),bJ Tryz.underlying179 rfl (by kernel_rfl),bJ Tryz.underlying180 rfl (by kernel_rfl),bJ Tryz.underlying182 rfl (by kernel_rfl),bJ Tryz.underlying184 rfl (by kernel_rfl),bJ Tryz.underlying185 rfl (by kernel_rfl),bJ Tryz.underlying191 rfl (by kernel_rfl),bJ Tryz.underlying194 rfl (by kernel_rfl),bJ Tryz.underlying196 rfl (by kernel_rfl),bJ Tryz.underlying197 rfl (by kernel_rfl),bJ Tryz.underlying205 rfl (by kernel_rfl),bJ Tryz.underlying214 rfl (by kernel_rfl),bJ Tryz.underlying225 rfl (by kernel_rfl),bJ Tryz.underlying229 rfl (by kernel_rfl),bJ Tryz.underlying232 rfl (by kernel_rfl),bJ Tryz.underlying234 rfl (by kernel_rfl),bJ Tryz.underlying243 rfl (by kernel_rfl),bJ Tryz.underlying252 rfl (by kernel_rfl),bJ Tryz.underlying259 rfl (by kernel_rfl),bJ Tryz.underlying262 rfl (by kernel_rfl),bJ Tryz.underlying265 rfl (by kernel_rfl),bJ Tryz.underlying280 rfl (by kernel_rfl),bJ Tryz.underlying282 rfl (by kernel_rfl),bJ Tryz.underlying283 rfl (by kernel_rfl),bJ Tryz.underlying288 rfl (by kernel_rfl),bJ Tryz.underlying300 rfl (by kernel_rfl),bJ Tryz.underlying305 rfl (by kernel_rfl),bJ Tryz.underlying309 rfl (by kernel_rfl),bJ Tryz.underlying312 rfl (by kernel_rfl),bJ Tryz.underlying330 rfl (by kernel_rfl),bJ Tryz.underlying334 rfl (by kernel_rfl),bJ Tryz.underlying352 rfl (by kernel_rfl),bJ Tryz.underlying394 rfl (by kernel_rfl),bJ Tryz.underlying409 rfl (by kernel_rfl),bJ Tryz.underlying413 rfl (by kernel_rfl),bJ Tryz.underlying426 rfl (by kernel_rfl),trivial⟩
def WR :Zt:=[(1,[.lit .nilFunc],[.lit .nilFunc]),(3,[zI 0],[zI 0]),(4,[zB false],[zB false]),(5,[.lit (.int .u8 0)],[.lit (.int .u8 0)]),(9,[.str ([]:List UInt8)],[.str ([]:List UInt8)]),(23,[.list false 5 []],[.lit (.slice none 0 0)]),(24,[.lit (.pointer none)],[.lit (.pointer none)]),(25,[.lit (.pointer none)],[.lit (.pointer none)]),(26,[.lit (.pointer none)],[.lit (.pointer none)]),(28,[.list false 5 [],.lit (.pointer none),.lit (.pointer none),.lit (.pointer none)],[.lit (.slice none 0 0),.lit (.pointer none),.lit (.pointer none),.lit (.pointer none)]),(31,[.list false 45 []],[.lit (.slice none 0 0)]),(35,[.list false 83 []],[.lit (.slice none 0 0)]),(36,[zB false,zB false,zB false],[zB false,zB false,zB false]),(38,[zI 0,.list false 83 [],zB false,zB false,zB false],[zI 0,.lit (.slice none 0 0),zB false,zB false,zB false]),(41,[zI 0,zI 0,zI 0],[zI 0,zI 0,zI 0]),(43,[.str ([]:List UInt8),zI 0,zB false,zI 0,zI 0,zI 0,zI 0,zI 0,zI 0,.str ([]:List UInt8),zI 0],[.str ([]:List UInt8),zI 0,zB false,zI 0,zI 0,zI 0,zI 0,zI 0,zI 0,.str ([]:List UInt8),zI 0]),(45,[zI 0,.str ([]:List UInt8),zI 0,zI 0],[zI 0,.str ([]:List UInt8),zI 0,zI 0]),(51,[.list false 102 []],[.lit (.slice none 0 0)]),(53,[zI 0,zI 0,zI 0,zI 0,zI 0,zI 0,.list false 102 [],zI 0,zI 0,zI 0,zI 0],[zI 0,zI 0,zI 0,zI 0,zI 0,zI 0,.lit (.slice none 0 0),zI 0,zI 0,zI 0,zI 0]),(56,[zF 0],[zF 0]),(57,[zF 0,zF 0,zF 0],[zF 0,zF 0,zF 0]),(58,[.list false 278 []],[.lit (.slice none 0 0)]),(60,[zI 0,zF 0,zF 0,zF 0,.list false 278 []],[zI 0,zF 0,zF 0,zF 0,.lit (.slice none 0 0)]),(69,[zI 0,.str ([]:List UInt8),.str ([]:List UInt8),.list false 5 []],[zI 0,.str ([]:List UInt8),.str ([]:List UInt8),.lit (.slice none 0 0)]),(70,[.lit (.pointer none)],[.lit (.pointer none)]),(71,[.list false 3 []],[.lit (.slice none 0 0)]),(72,[.list false 280 []],[.lit (.slice none 0 0)]),(74,[zI 0,zI 0,zI 0,zI 0,.list false 280 []],[zI 0,zI 0,zI 0,zI 0,.lit (.slice none 0 0)]),(76,[zI 0,zI 0,zI 0,zI 0,zI 0,zI 0,.list false 102 [],zI 0,zI 0,zI 0,zI 0,.lit (.pointer none),.lit (.pointer none),zI 0,.list false 83 [],zB false,zB false,zB false,.list false 3 [],zI 0,zI 0,zI 0,zI 0,zI 0,zI 0,zI 0,.list false 280 [],zB false,zI 0,zB false],[zI 0,zI 0,zI 0,zI 0,zI 0,zI 0,.lit (.slice none 0 0),zI 0,zI 0,zI 0,zI 0,.lit (.pointer none),.lit (.pointer none),zI 0,.lit (.slice none 0 0),zB false,zB false,zB false,.lit (.slice none 0 0),zI 0,zI 0,zI 0,zI 0,zI 0,zI 0,zI 0,.lit (.slice none 0 0),zB false,zI 0,zB false]),(78,[.list false 4 []],[.lit (.slice none 0 0)]),(80,[.lit (.pointer none),.list false 45 [],.list false 4 [],zB false,zB false,zB false],[.lit (.pointer none),.lit (.slice none 0 0),.lit (.slice none 0 0),zB false,zB false,zB false]),(83,[.str ([]:List UInt8),zI 0,zB false,zI 0,zI 0,zI 0,zI 0,zI 0,zI 0,.str ([]:List UInt8),zI 0,zI 0],[.str ([]:List UInt8),zI 0,zB false,zI 0,zI 0,zI 0,zI 0,zI 0,zI 0,.str ([]:List UInt8),zI 0,zI 0]),(86,[.list false 9 []],[.lit (.slice none 0 0)]),(88,[zI 0,zI 0,.list false 9 []],[zI 0,zI 0,.lit (.slice none 0 0)]),(102,[zI 0,zI 0,zI 0,zB false,zI 0],[zI 0,zI 0,zI 0,zB false,zI 0]),(110,[.lit (.map none)],[.lit (.map none)]),(111,[.list false 69 []],[.lit (.slice none 0 0)]),(113,[.lit (.map none),.list false 69 []],[.lit (.map none),.lit (.slice none 0 0)]),(115,[.list false 4 []],[.lit (.slice none 0 0)]),(116,[.list false 214 []],[.lit (.slice none 0 0)]),(117,[.list false 150 []],[.lit (.slice none 0 0)]),(119,[.list false 4 [],zI 0,.list false 214 [],.list false 150 []],[.lit (.slice none 0 0),zI 0,.lit (.slice none 0 0),.lit (.slice none 0 0)]),(130,[zB false,zI 0],[zB false,zI 0]),(131,[zB false,zI 0,zB false,zI 0,zB false,zI 0],[zB false,zI 0,zB false,zI 0,zB false,zI 0]),(150,[.str ([]:List UInt8),zI 0,zI 0],[.str ([]:List UInt8),zI 0,zI 0]),(157,[zI 0,zI 0],[zI 0,zI 0]),(180,[.list false 184 []],[.lit (.slice none 0 0)]),(184,[.str ([]:List UInt8),zI 0,zI 0],[.str ([]:List UInt8),zI 0,zI 0]),(191,[.lit (.pointer none),zI 0],[.lit (.pointer none),zI 0]),(196,[.list false 5 [],zB false],[.lit (.slice none 0 0),zB false]),(205,[.lit (.int .u32 0)],[.lit (.int .u32 0)]),(214,[.str ([]:List UInt8),zI 0,zI 0,zI 0],[.str ([]:List UInt8),zI 0,zI 0,zI 0]),(232,[zI 0,zI 0,zI 0,.str ([]:List UInt8)],[zI 0,zI 0,zI 0,.str ([]:List UInt8)]),(262,[.lit (.pointer none)],[.lit (.pointer none)]),(309,[zI 0,zI 0,zI 0,zI 0,zI 0,zI 0],[zI 0,zI 0,zI 0,zI 0,zI 0,zI 0]),(334,[zI 0,zI 0],[zI 0,zI 0]),(413,[.str ([]:List UInt8),zI 0],[.str ([]:List UInt8),zI 0]),(426,[.lit (.int .u32 0),.lit (.int .u32 0),.lit (.int .u32 0),.lit (.int .u32 0),.lit (.int .u32 0),.lit (.int .u32 0),.lit (.int .u32 0),.lit (.int .u32 0),.lit (.int .u32 0),.lit (.int .u32 0),.lit (.int .u32 0),.lit (.int .u32 0),.lit (.int .u32 0),.lit (.int .u32 0),.lit (.int .u32 0),.lit (.int .u32 0)],[.lit (.int .u32 0),.lit (.int .u32 0),.lit (.int .u32 0),.lit (.int .u32 0),.lit (.int .u32 0),.lit (.int .u32 0),.lit (.int .u32 0),.lit (.int .u32 0),.lit (.int .u32 0),.lit (.int .u32 0),.lit (.int .u32 0),.lit (.int .u32 0),.lit (.int .u32 0),.lit (.int .u32 0),.lit (.int .u32 0),.lit (.int .u32 0)])]
theorem VO :wY Tryz.prog WR:=⟨zz (.nilFunc) [] [] (by kernel_rfl) rfl rfl rfl (zD Tryz.underlying1),zz (.int .i64 0) [] [] (by kernel_rfl) rfl rfl rfl (zD Tryz.underlying3),zz (.bool false) [] [] (by kernel_rfl) rfl rfl rfl (zD Tryz.underlying4),zz (.int .u8 0) [] [] (by kernel_rfl) rfl rfl rfl (zD Tryz.underlying5),zz (.string ⟨#[]⟩) [] [] (by kernel_rfl) rfl rfl rfl (zD Tryz.underlying9),zz (.slice none 0 0) [5] [0] (by kernel_rfl) rfl rfl rfl (zD Tryz.underlying23),zz (.pointer none) [] [] (by kernel_rfl) rfl rfl rfl (zD Tryz.underlying24),zz (.pointer none) [] [] (by kernel_rfl) rfl rfl rfl (zD Tryz.underlying25),zz (.pointer none) [] [] (by kernel_rfl) rfl rfl rfl (zD Tryz.underlying26),zz (.agg #[.slice none 0 0,.pointer none,.pointer none,.pointer none]) [5] [0] (by kernel_rfl) rfl rfl rfl (fun _ _ _=>⟨_,rfl⟩),zz (.slice none 0 0) [45] [0] (by kernel_rfl) rfl rfl rfl (zD Tryz.underlying31),zz (.slice none 0 0) [83] [0] (by kernel_rfl) rfl rfl rfl (zD Tryz.underlying35),zz (.agg #[.bool false,.bool false,.bool false]) [] [] (by kernel_rfl) rfl rfl rfl (fun _ _ _=>⟨_,rfl⟩),zz (.agg #[.int .i64 0,.slice none 0 0,.bool false,.bool false,.bool false]) [83] [0] (by kernel_rfl) rfl rfl rfl (fun _ _ _=>⟨_,rfl⟩),zz (.agg #[.int .i64 0,.int .i64 0,.int .i64 0]) [] [] (by kernel_rfl) rfl rfl rfl (fun _ _ _=>⟨_,rfl⟩),zz (.agg #[.string ⟨#[]⟩,.int .i64 0,.bool false,.int .i64 0,.int .i64 0,.int .i64 0,.int .i64 0,.int .i64 0,.int .i64 0,.string ⟨#[]⟩,.int .i64 0]) [] [] (by kernel_rfl) rfl rfl rfl (fun _ _ _=>⟨_,rfl⟩),zz (.agg #[.int .i64 0,.string ⟨#[]⟩,.int .i64 0,.int .i64 0]) [] [] (by kernel_rfl) rfl rfl rfl (fun _ _ _=>⟨_,rfl⟩),zz (.slice none 0 0) [102] [0] (by kernel_rfl) rfl rfl rfl (zD Tryz.underlying51),zz (.agg #[.int .i64 0,.int .i64 0,.int .i64 0,.int .i64 0,.int .i64 0,.int .i64 0,.slice none 0 0,.int .i64 0,.int .i64 0,.int .i64 0,.int .i64 0]) [102] [0] (by kernel_rfl) rfl rfl rfl (fun _ _ _=>⟨_,rfl⟩),zz (.float .f64 0) [] [] (by kernel_rfl) rfl rfl rfl (zD Tryz.underlying56),zz (.agg #[.float .f64 0,.float .f64 0,.float .f64 0]) [] [] (by kernel_rfl) rfl rfl rfl (fun _ _ _=>⟨_,rfl⟩),zz (.slice none 0 0) [278] [0] (by kernel_rfl) rfl rfl rfl (zD Tryz.underlying58),zz (.agg #[.int .i64 0,.float .f64 0,.float .f64 0,.float .f64 0,.slice none 0 0]) [278] [0] (by kernel_rfl) rfl rfl rfl (fun _ _ _=>⟨_,rfl⟩),zz (.agg #[.int .i64 0,.string ⟨#[]⟩,.string ⟨#[]⟩,.slice none 0 0]) [5] [0] (by kernel_rfl) rfl rfl rfl (fun _ _ _=>⟨_,rfl⟩),zz (.pointer none) [] [] (by kernel_rfl) rfl rfl rfl (zD Tryz.underlying70),zz (.slice none 0 0) [3] [0] (by kernel_rfl) rfl rfl rfl (zD Tryz.underlying71),zz (.slice none 0 0) [280] [0] (by kernel_rfl) rfl rfl rfl (zD Tryz.underlying72),zz (.agg #[.int .i64 0,.int .i64 0,.int .i64 0,.int .i64 0,.slice none 0 0]) [280] [0] (by kernel_rfl) rfl rfl rfl (fun _ _ _=>⟨_,rfl⟩),zz (.agg #[.int .i64 0,.int .i64 0,.int .i64 0,.int .i64 0,.int .i64 0,.int .i64 0,.slice none 0 0,.int .i64 0,.int .i64 0,.int .i64 0,.int .i64 0,.pointer none,.pointer none,.int .i64 0,.slice none 0 0,.bool false,.bool false,.bool false,.slice none 0 0,.int .i64 0,.int .i64 0,.int .i64 0,.int .i64 0,.int .i64 0,.int .i64 0,.int .i64 0,.slice none 0 0,.bool false,.int .i64 0,.bool false]) [102,83,3,280] [0,0,0,0] (by kernel_rfl) rfl rfl rfl (fun _ _ _=>⟨_,rfl⟩),zz (.slice none 0 0) [4] [0] (by kernel_rfl) rfl rfl rfl (zD Tryz.underlying78),zz (.agg #[.pointer none,.slice none 0 0,.slice none 0 0,.bool false,.bool false,.bool false]) [45,4] [0,0] (by kernel_rfl) rfl rfl rfl (fun _ _ _=>⟨_,rfl⟩),zz (.agg #[.string ⟨#[]⟩,.int .i64 0,.bool false,.int .i64 0,.int .i64 0,.int .i64 0,.int .i64 0,.int .i64 0,.int .i64 0,.string ⟨#[]⟩,.int .i64 0,.int .i64 0]) [] [] (by kernel_rfl) rfl rfl rfl (fun _ _ _=>⟨_,rfl⟩),zz (.slice none 0 0) [9] [0] (by kernel_rfl) rfl rfl rfl (zD Tryz.underlying86),zz (.agg #[.int .i64 0,.int .i64 0,.slice none 0 0]) [9] [0] (by kernel_rfl) rfl rfl rfl (fun _ _ _=>⟨_,rfl⟩),zz (.agg #[.int .i64 0,.int .i64 0,.int .i64 0,.bool false,.int .i64 0]) [] [] (by kernel_rfl) rfl rfl rfl (fun _ _ _=>⟨_,rfl⟩),zz (.map none) [] [] (by kernel_rfl) rfl rfl rfl (zD Tryz.underlying110),zz (.slice none 0 0) [69] [0] (by kernel_rfl) rfl rfl rfl (zD Tryz.underlying111),zz (.agg #[.map none,.slice none 0 0]) [69] [0] (by kernel_rfl) rfl rfl rfl (fun _ _ _=>⟨_,rfl⟩),zz (.agg #[.slice none 0 0]) [4] [0] (by kernel_rfl) rfl rfl rfl (fun _ _ _=>⟨_,rfl⟩),zz (.slice none 0 0) [214] [0] (by kernel_rfl) rfl rfl rfl (zD Tryz.underlying116),zz (.slice none 0 0) [150] [0] (by kernel_rfl) rfl rfl rfl (zD Tryz.underlying117),zz (.agg #[.slice none 0 0,.int .i64 0,.slice none 0 0,.slice none 0 0]) [4,214,150] [0,0,0] (by kernel_rfl) rfl rfl rfl (fun _ _ _=>⟨_,rfl⟩),zz (.agg #[.bool false,.int .i64 0]) [] [] (by kernel_rfl) rfl rfl rfl (fun _ _ _=>⟨_,rfl⟩),zz (.agg #[.bool false,.int .i64 0,.bool false,.int .i64 0,.bool false,.int .i64 0]) [] [] (by kernel_rfl) rfl rfl rfl (fun _ _ _=>⟨_,rfl⟩),zz (.agg #[.string ⟨#[]⟩,.int .i64 0,.int .i64 0]) [] [] (by kernel_rfl) rfl rfl rfl (fun _ _ _=>⟨_,rfl⟩),zz (.agg #[.int .i64 0,.int .i64 0]) [] [] (by kernel_rfl) rfl rfl rfl (fun _ _ _=>⟨_,rfl⟩),zz (.slice none 0 0) [184] [0] (by kernel_rfl) rfl rfl rfl (zD Tryz.underlying180),zz (.agg #[.string ⟨#[]⟩,.int .i64 0,.int .i64 0]) [] [] (by kernel_rfl) rfl rfl rfl (fun _ _ _=>⟨_,rfl⟩),zz (.agg #[.pointer none,.int .i64 0]) [] [] (by kernel_rfl) rfl rfl rfl (fun _ _ _=>⟨_,rfl⟩),zz (.agg #[.slice none 0 0,.bool false]) [5] [0] (by kernel_rfl) rfl rfl rfl (fun _ _ _=>⟨_,rfl⟩),zz (.int .u32 0) [] [] (by kernel_rfl) rfl rfl rfl (zD Tryz.underlying205),zz (.agg #[.string ⟨#[]⟩,.int .i64 0,.int .i64 0,.int .i64 0]) [] [] (by kernel_rfl) rfl rfl rfl (fun _ _ _=>⟨_,rfl⟩),zz (.agg #[.int .i64 0,.int .i64 0,.int .i64 0,.string ⟨#[]⟩]) [] [] (by kernel_rfl) rfl rfl rfl (fun _ _ _=>⟨_,rfl⟩),zz (.pointer none) [] [] (by kernel_rfl) rfl rfl rfl (zD Tryz.underlying262),zz (.agg #[.int .i64 0,.int .i64 0,.int .i64 0,.int .i64 0,.int .i64 0,.int .i64 0]) [] [] (by kernel_rfl) rfl rfl rfl (fun _ _ _=>⟨_,rfl⟩),zz (.agg #[.int .i64 0,.int .i64 0]) [] [] (by kernel_rfl) rfl rfl rfl (fun _ _ _=>⟨_,rfl⟩),zz (.agg #[.string ⟨#[]⟩,.int .i64 0]) [] [] (by kernel_rfl) rfl rfl rfl (fun _ _ _=>⟨_,rfl⟩),zz (.agg #[.int .u32 0,.int .u32 0,.int .u32 0,.int .u32 0,.int .u32 0,.int .u32 0,.int .u32 0,.int .u32 0,.int .u32 0,.int .u32 0,.int .u32 0,.int .u32 0,.int .u32 0,.int .u32 0,.int .u32 0,.int .u32 0]) [] [] (by kernel_rfl) rfl rfl rfl (fun _ _ _=>⟨_,rfl⟩),trivial⟩
theorem VM :uT Tryz.prog [3,4,5,9,43,45,69,83,102,150,180,184,214,232]:=⟨⟨_,_,(by kernel_rfl:Tryz.prog.info? 3=some Tryz.t3),rfl,rfl,rfl⟩,⟨_,_,(by kernel_rfl:Tryz.prog.info? 4=some Tryz.t4),rfl,rfl,rfl⟩,⟨_,_,(by kernel_rfl:Tryz.prog.info? 5=some Tryz.t5),rfl,rfl,rfl⟩,⟨_,_,(by kernel_rfl:Tryz.prog.info? 9=some Tryz.t9),rfl,rfl,rfl⟩,⟨_,_,(by kernel_rfl:Tryz.prog.info? 43=some Tryz.t43),rfl,rfl,rfl⟩,⟨_,_,(by kernel_rfl:Tryz.prog.info? 45=some Tryz.t45),rfl,rfl,rfl⟩,⟨_,_,(by kernel_rfl:Tryz.prog.info? 69=some Tryz.t69),rfl,rfl,rfl⟩,⟨_,_,(by kernel_rfl:Tryz.prog.info? 83=some Tryz.t83),rfl,rfl,rfl⟩,⟨_,_,(by kernel_rfl:Tryz.prog.info? 102=some Tryz.t102),rfl,rfl,rfl⟩,⟨_,_,(by kernel_rfl:Tryz.prog.info? 150=some Tryz.t150),rfl,rfl,rfl⟩,⟨_,_,(by kernel_rfl:Tryz.prog.info? 180=some Tryz.t180),rfl,rfl,rfl⟩,⟨_,_,(by kernel_rfl:Tryz.prog.info? 184=some Tryz.t184),rfl,rfl,rfl⟩,⟨_,_,(by kernel_rfl:Tryz.prog.info? 214=some Tryz.t214),rfl,rfl,rfl⟩,⟨_,_,(by kernel_rfl:Tryz.prog.info? 232=some Tryz.t232),rfl,rfl,rfl⟩,trivial⟩
instance :HasTab Tryz.prog:=⟨WQ,WR,[3,4,5,9,43,45,69,83,102,150,180,184,214,232],VN,VO,VM⟩
theorem LK {x y:SConfig} {k:Nat} {n:Int} (h:CY x n k=some y):(∃m,([zI x.capacity.a,zI x.capacity.b,zI x.capacity.c,zI x.allocatable.a,zI x.allocatable.b,zI x.allocatable.c,.list true 102 (x.thresholds.map aL),zI x.period,zI x.retries,zI x.maxAge,zI x.dead]:List AV)[k]? =some (zI m))∧([zI x.capacity.a,zI x.capacity.b,zI x.capacity.c,zI x.allocatable.a,zI x.allocatable.b,zI x.allocatable.c,.list true 102 (x.thresholds.map aL),zI x.period,zI x.retries,zI x.maxAge,zI x.dead]:List AV).set k (zI n)=[zI y.capacity.a,zI y.capacity.b,zI y.capacity.c,zI y.allocatable.a,zI y.allocatable.b,zI y.allocatable.c,.list true 102 (y.thresholds.map aL),zI y.period,zI y.retries,zI y.maxAge,zI y.dead]:=by
  unfold CY at h;split at h<;>first|(cases h;exact ⟨⟨_,rfl⟩,rfl⟩)|cases h
theorem XA :(Tryz.prog.info? 259).map (·.zero)=some (some (.slice none 0 0)):=by kernel_rfl
theorem mz3 :(Tryz.prog.info? 3).map (·.zero)=some (some (.int .i64 0)):=by kernel_rfl
theorem WH :(Tryz.prog.info? 23).map (·.zero)=some (some (.slice none 0 0)):=by kernel_rfl
theorem QO {x:SPod} {k:Nat} {n:Int} (h:IW x k=some n):([.str x.id,zI x.prio,zB x.critical,zI x.req.a,zI x.req.b,zI x.req.c,zI x.lim.a,zI x.lim.b,zI x.lim.c,.str x.image,zI x.size]:List AV)[k]? =some (zI n):=by
  unfold IW at h;split at h<;>first|(cases h;rfl)|cases h
theorem oX :EqT Tryz.prog 45 O5 VR cG:=⟨⟨_,Tryz.underlying45,rfl⟩,by kernel_rfl,fun _=>rfl,fun a b=>by kernel_rfl⟩
theorem SW :EqT Tryz.prog 36 O3 VQ PP:=⟨⟨_,Tryz.underlying36,rfl⟩,by kernel_rfl,fun _=>rfl,fun a b=>by kernel_rfl⟩
end
section
open Go.RowKit
def tM :Option SConfig:=
  some (⟨(⟨100,100,100⟩:V3 Int),(⟨10,10,10⟩:V3 Int),[(⟨0,10,0,false,0⟩:SThreshold)],1,1,2,1⟩:SConfig)
theorem BU {r:SConfig} (h:tM=some r):aI Tryz.prog 13 [] (gW r):=by
  refine aK Tryz.func13 rfl rfl rfl rfl fun base=>?_
  unfold tM at h
  refine srd 1 rfl [0] [0] rfl (srd 6 rfl [0] [0] rfl ?_)
  cases h;exact aJ ⟨.inl rfl,rfl,rfl⟩
def rX :Option (List (List UInt8)):=
  some [[84,105],[84],[71,105],[71],[77,105],[77],[75,105],[107]]
theorem AE {r:List (List UInt8)} (h:rX=some r):aI Tryz.prog 99 [] (.list true 9 (r.map AV.str)):=by
  refine aK Tryz.func99 rfl rfl rfl rfl fun base=>?_
  unfold rX at h
  refine srd 1 rfl [] [] rfl (aB (aA (rh 2 [] [0] rfl trivial (aC.done [0] [] rfl ?_))))
  cases h;exact aJ ⟨.inl rfl,rfl,rfl⟩
def tR (x2:Int) (q1:Int→Option Int):Option Int:=
  q1 (w64 (x2+1))
def kQ (x4:Int):Option Int:=
  some x4
def oP (x6:Int) (q4:Int→Int→Option Int) (x7:Int):Option Int:=
  q4 x7 (w64 (x6+1))
def f0 (x2:Int) (k490:Int→Option Int):Nat→Int→Int→Option Int
  |0,_,_=>none
  |m4+1,x5,x6=>
   bif decide (x6<4) then
     bif (x2.tmod 2)==0 then
       oP x6 (f0 x2 k490 m4) (w64 (x5*1024))
     else
       oP x6 (f0 x2 k490 m4) (w64 (x5*1000))
   else
     k490 x5
def iT (a0:List UInt8) (v1:List (List UInt8)):Nat→Int→Option Int
  |0,_=>none
  |m1+1,x2=>
   bif decide (x2<8) then
     bO (idx v1 x2) fun v3=>
     bif v3==a0 then
       f0 x2 kQ aT 1 (w64 (x2.tdiv 2))
     else
       tR x2 (iT a0 v1 m1)
   else none
def tQ (a0:List UInt8):Option Int:=
  bif a0==([]:List UInt8) then
    some 1
  else
    bO (rX) fun v1=>
    iT a0 v1 aT 0
theorem BW {a0:List UInt8} {r:Int} (h:tQ a0=some r):aI Tryz.prog 100 [.str a0] (zI r):=by
  refine aK Tryz.func100 rfl rfl rfl rfl fun base=>?_
  unfold tQ at h
  refine srd 1 rfl [0] [] rfl (aB (srd 2 rfl [0,8] [] rfl (aD h rfl (fun h=>?_) (fun h=>?_))))
  ·refine srd 1 rfl [2] [] rfl ?_
   cases h;exact aJ ⟨.inl rfl,rfl,rfl⟩
  refine aE (aB (aA ?_))
  obtain ⟨v1,hv1,h⟩:=bI h
  refine aP Tryz.call99 (AE hv1) rfl ?_
  refine rh 1 [] [3] rfl trivial (aC.done [0,3] [] rfl (aB (srd 1 rfl [0,3,4] [] rfl (aF (aU (fun m1 e=>∃x2,e=⟨[(0,[],.str a0),(3,[],.list true 9 (v1.map AV.str)),(4,[],zI x2)],[],[],[],base⟩∧iT a0 v1 m1 x2=some r) aT ⟨_,rfl,h⟩ ?_ ?_)))))
  ·rintro m1 _ ⟨x2,rfl,h⟩
   rw [iT] at h
   refine aB (srd 2 rfl [0,3,4,11] [] rfl (aD h rfl (fun h=>?_) (fun h=>?_)))
   ·refine aE (aS (fun e=>e=⟨[(0,[],.str a0),(3,[],.list true 9 (v1.map AV.str)),(4,[],zI x2)],[],[],[],base⟩∧tR x2 (iT a0 v1 m1)=some r) ?_ ?_)
    ·refine aF (aB (aA ?_))
     obtain ⟨v3,hv3,h⟩:=bI h
     refine rn 2 rfl (rd (rIx hv3) ?_)
     refine rn 3 rfl (aC.done [0,3,4,19] [] rfl (aD h rfl (fun h=>?_) (fun h=>?_)))
     ·refine srd 1 rfl [4,5] [] rfl (aS (fun e=>∃x4,e=⟨[(5,[],zI x4)],[],[],[],base⟩∧kQ x4=some r) ?_ ?_)
      ·refine srd 3 rfl [4,5,6] [] rfl (aF (aU (fun m4 e=>∃x5 x6,e=⟨[(4,[],zI x2),(5,[],zI x5),(6,[],zI x6)],[],[],[],base⟩∧f0 x2 (kQ) m4 x5 x6=some r) aT ⟨_,_,rfl,h⟩ ?_ ?_))
       ·rintro m4 _ ⟨x5,x6,rfl,h⟩
        rw [f0] at h
        refine aB (srd 2 rfl [4,5,6,23] [] rfl (aD h rfl (fun h=>?_) (fun h=>?_)))
        ·refine aE (aS (fun e=>∃x7,e=⟨[(4,[],zI x2),(5,[],zI x7),(6,[],zI x6)],[],[],[],base⟩∧oP x6 (f0 x2 (kQ) m4) x7=some r) ?_ ?_)
         ·refine aF (srd 3 rfl [4,5,6,28] [] rfl (aD h rfl (fun h=>?_) (fun h=>?_)))
          ·refine aA (rn 3 rfl (aC.done [4,5,6] [] rfl ?_))
           exact ⟨_,rfl,h⟩
          refine aA (rn 3 rfl (aC.done [4,5,6] [] rfl ?_))
          exact ⟨_,rfl,h⟩
         rintro _ ⟨x7,rfl,h⟩
         unfold oP at h
         refine aA (rn 3 rfl (aC.done [4,5,6] [] rfl ?_))
         exact ⟨_,_,rfl,h⟩
        refine aR [5] [] rfl (CWp.exit ?_)
        exact ⟨_,rfl,h⟩
       rintro _ ⟨_,_,_,h⟩
       rw [f0] at h;cases h
      rintro _ ⟨x4,rfl,h⟩
      unfold kQ at h
      refine srd 2 rfl [2] [] rfl ?_
      cases h;exact aJ ⟨.inl rfl,rfl,rfl⟩
     refine aR [0,3,4] [] rfl (aE ?_)
     exact ⟨rfl,h⟩
    rintro _ ⟨rfl,h⟩
    unfold tR at h
    refine aA (rn 3 rfl (aC.done [0,3,4] [] rfl ?_))
    exact ⟨_,rfl,h⟩
   cases h
  rintro _ ⟨_,_,h⟩
  rw [iT] at h;cases h
def gY :Nat→Int→Option (List UInt8)
  |0,_=>none
  |m+1,a0=>
   bif decide (a0<10) then
     some [u8 (w64 (48+a0))]
   else
     bO (gY m (w64 (a0.tdiv 10))) fun v1=>
     bO (gY m (a0.tmod 10)) fun v2=>
     bO (bM v1 v2) fun v3=>
     some v3
def vF (a0:Int):Option (List UInt8):=gY aT a0
theorem E6 (m:Nat):∀{a0:Int} {r:List UInt8} (_h:gY m a0=some r),aI Tryz.prog 101 [zI a0] (.str r):=by
  induction m with
  |zero=>intro a0 r h;rw [gY] at h;cases h
  |succ m ih=>
  intro a0 r h
  refine aK Tryz.func101 rfl rfl rfl rfl fun base=>?_
  rw [gY] at h
  refine srd 1 rfl [0] [] rfl (aB (srd 2 rfl [0,4] [] rfl (aD h rfl (fun h=>?_) (fun h=>?_))))
  ·refine aB (aA (rn 3 rfl (cU8 7 ?_)))
   refine rn 1 rfl (rd (TZ (l:=[u8 (w64 (48+a0))])) ?_)
   refine rn 1 rfl (aC.done [2] [] rfl ?_)
   cases h;exact aJ ⟨.inl rfl,rfl,rfl⟩
  refine aE (aB (aA (rn 2 rfl ?_)))
  obtain ⟨v1,hv1,h⟩:=bI h
  refine aP Tryz.call101 (ih hv1) rfl ?_
  refine rn 2 rfl ?_
  obtain ⟨v2,hv2,h⟩:=bI h
  refine aP Tryz.call101 (ih hv2) rfl ?_
  obtain ⟨v3,hv3,h⟩:=bI h
  refine rd (fJ hv3) ?_
  refine rn 1 rfl (aC.done [2] [] rfl ?_)
  cases h;exact aJ ⟨.inl rfl,rfl,rfl⟩
theorem y0 {a0:Int} {r:List UInt8} (h:vF a0=some r):aI Tryz.prog 101 [zI a0] (.str r):=E6 aT h
def jY (a0:Int):Option (List UInt8):=
  bO (tQ ([]:List UInt8)) fun v2=>
  bO (Q2 .i64 a0 v2) fun v3=>
  bO (vF v3) fun v4=>
  bO (bM v4 ([]:List UInt8)) fun v5=>
  some v5
def sC (x6:Int) (q2:Int→Option (List UInt8)):Option (List UInt8):=
  q2 (w64 (x6-1))
def gZ (a0:Int) (v1:List (List UInt8)) (k290:Option (List UInt8)):Nat→Int→Option (List UInt8)
  |0,_=>none
  |m2+1,x6=>
   bif decide (x6≥0) then
     bO (idx v1 x6) fun v7=>
     bO (tQ v7) fun v8=>
     bO (T0 a0 v8) fun v9=>
     bif v9==0 then none else
     sC x6 (gZ a0 v1 k290 m2)
   else
     k290
def dH (a0:Int):Option (List UInt8):=
  bif decide (a0≤0) then none else
  bO (rX) fun v1=>
  gZ a0 v1 (jY a0) aT 7
theorem dO {a0:Int} {r:List UInt8} (h:dH a0=some r):aI Tryz.prog 42 [zI a0] (.str r):=by
  refine aK Tryz.func42 rfl rfl rfl rfl fun base=>?_
  unfold dH at h
  refine srd 1 rfl [0] [] rfl (aB (srd 2 rfl [0,7] [] rfl (aD h rfl (fun h=>?_) (fun h=>?_))))
  ·cases h
  refine aE (srd 1 rfl [0,3] [] rfl (aB (aA ?_)))
  obtain ⟨v1,hv1,h⟩:=bI h
  refine aP Tryz.call99 (AE hv1) rfl ?_
  refine rh 1 [] [4] rfl trivial (aC.done [0,3,4] [] rfl (aS (fun e=>e=⟨[(0,[],zI a0),(3,[],.str ([]:List UInt8))],[],[],[],base⟩∧jY a0=some r) ?_ ?_))
  ·refine srd 1 rfl [0,3,4,5] [] rfl (aF (aU (fun m2 e=>∃x6,e=⟨[(0,[],zI a0),(3,[],.str ([]:List UInt8)),(4,[],.list true 9 (v1.map AV.str)),(5,[],zI x6)],[],[],[],base⟩∧gZ a0 v1 (jY a0) m2 x6=some r) aT ⟨_,rfl,h⟩ ?_ ?_))
   ·rintro m2 _ ⟨x6,rfl,h⟩
    rw [gZ] at h
    refine aB (srd 2 rfl [0,3,4,5,10] [] rfl (aD h rfl (fun h=>?_) (fun h=>?_)))
    ·refine aE (aS (fun e=>e=⟨[(0,[],zI a0),(3,[],.str ([]:List UInt8)),(4,[],.list true 9 (v1.map AV.str)),(5,[],zI x6)],[],[],[],base⟩∧sC x6 (gZ a0 v1 (jY a0) m2)=some r) ?_ ?_)
     ·refine aF (aB (aA ?_))
      obtain ⟨v7,hv7,h⟩:=bI h
      refine rn 3 rfl (rd (rIx hv7) ?_)
      refine rn 1 rfl ?_
      obtain ⟨v8,hv8,h⟩:=bI h
      refine aP Tryz.call100 (BW hv8) rfl ?_
      obtain ⟨v9,hv9,h⟩:=bI h
      refine rd (XR hv9) ?_
      refine rn 1 rfl (aC.done [0,3,4,5,20] [] rfl (aD h rfl (fun h=>?_) (fun h=>?_)))
      ·cases h
      refine aR [0,3,4,5] [] rfl (aE ?_)
      exact ⟨rfl,h⟩
     rintro _ ⟨rfl,h⟩
     unfold sC at h
     refine aA (rn 3 rfl (aC.done [0,3,4,5] [] rfl ?_))
     exact ⟨_,rfl,h⟩
    refine aR [0,3] [] rfl (CWp.exit ?_)
    exact ⟨rfl,h⟩
   rintro _ ⟨_,_,h⟩
   rw [gZ] at h;cases h
  rintro _ ⟨rfl,h⟩
  unfold jY at h
  refine aB (aA (rn 2 rfl ?_))
  obtain ⟨v2,hv2,h⟩:=bI h
  refine aP Tryz.call100 (BW hv2) rfl ?_
  obtain ⟨v3,hv3,h⟩:=bI h
  refine rd (WM hv3) ?_
  obtain ⟨v4,hv4,h⟩:=bI h
  refine aP Tryz.call101 (y0 hv4) rfl ?_
  obtain ⟨v5,hv5,h⟩:=bI h
  refine rn 1 rfl (rd (fJ hv5) ?_)
  refine rn 1 rfl (aC.done [2] [] rfl ?_)
  cases h;exact aJ ⟨.inl rfl,rfl,rfl⟩
def y1 (a0:Int):Option (List UInt8):=
  bif a0==0 then
    some [109,101,109,111,114,121]
  else none
theorem JB {a0:Int} {r:List UInt8} (h:y1 a0=some r):aI Tryz.prog 102 [zI a0] (.str r):=by
  refine aK Tryz.func102 rfl rfl rfl rfl fun base=>?_
  unfold y1 at h
  refine srd 1 rfl [0] [] rfl (aB (srd 2 rfl [0,4] [] rfl (aD h rfl (fun h=>?_) (fun h=>?_))))
  ·refine srd 1 rfl [2] [] rfl ?_
   cases h;exact aJ ⟨.inl rfl,rfl,rfl⟩
  cases h
def sD (a0:SThreshold) (x3:List UInt8):Option (List UInt8):=
  bif a0.soft then none else
  some x3
def xH (a0:SThreshold):Option (List UInt8):=
  bO (y1 a0.signal) fun v1=>
  bO (bM v1 [60]) fun v2=>
  bif decide (a0.percent>0) then
    bO (vF a0.percent) fun v4=>
    bO (bM v2 v4) fun v5=>
    bO (bM v5 [37]) fun v6=>
    sD a0 v6
  else none
theorem HU {a0:SThreshold} {r:List UInt8} (h:xH a0=some r):aI Tryz.prog 43 [aL a0] (.str r):=by
  refine aK Tryz.func43 rfl rfl rfl rfl fun base=>?_
  unfold xH at h
  refine srd 2 rfl [1] [1] rfl (aB (aA (rn 2 rfl ?_)))
  obtain ⟨v1,hv1,h⟩:=bI h
  refine aP Tryz.call102 (JB hv1) rfl ?_
  obtain ⟨v2,hv2,h⟩:=bI h
  refine rd (fJ hv2) ?_
  refine rn 1 rfl (aC.done [1,3] [1] rfl (aS (fun e=>∃x3,e=⟨[(1,[],.lptr 1 0),(3,[],.str x3)],[],[(1,[zI a0.signal,zI a0.percent,zI a0.amount,zB a0.soft,zI a0.grace])],[],base⟩∧sD a0 x3=some r) ?_ ?_))
  ·refine srd 3 rfl [1,3,10] [1] rfl (aD h rfl (fun h=>?_) (fun h=>?_))
   ·refine aA (rn 3 rfl ?_)
    obtain ⟨v4,hv4,h⟩:=bI h
    refine aP Tryz.call101 (y0 hv4) rfl ?_
    obtain ⟨v5,hv5,h⟩:=bI h
    refine rd (fJ hv5) ?_
    obtain ⟨v6,hv6,h⟩:=bI h
    refine rd (fJ hv6) ?_
    refine rn 1 rfl (aC.done [1,3] [1] rfl ?_)
    exact ⟨_,rfl,h⟩
   cases h
  rintro _ ⟨x3,rfl,h⟩
  unfold sD at h
  refine aB (srd 2 rfl [1,3,23] [1] rfl (aD h rfl (fun h=>?_) (fun h=>?_)))
  ·cases h
  refine aE (srd 2 rfl [2] [] rfl ?_)
  cases h;exact aJ ⟨.inl rfl,rfl,rfl⟩
def nK (a0:SConfig) (x21:List UInt8):Option (List UInt8):=
  bO (bM x21 [112,101,114,105,111,100,32]) fun v22=>
  bO (dH a0.period) fun v23=>
  bO (bM v22 v23) fun v24=>
  bO (bM v24 [10,114,101,116,114,105,101,115,32]) fun v25=>
  bO (dH a0.retries) fun v26=>
  bO (bM v25 v26) fun v27=>
  bO (bM v27 [10,109,97,120,97,103,101,32]) fun v28=>
  bO (dH a0.maxAge) fun v29=>
  bO (bM v28 v29) fun v30=>
  bO (bM v30 [10,100,101,97,100,32]) fun v31=>
  bO (dH a0.dead) fun v32=>
  bO (bM v31 v32) fun v33=>
  bO (bM v33 [10]) fun v34=>
  some v34
def jZ (a0:SConfig) (k290:(List UInt8)→Option (List UInt8)):Nat→(List UInt8)→Int→Option (List UInt8)
  |0,_,_=>none
  |m2+1,x35,x36=>
   bif decide (x36<(a0.thresholds.length:Int)) then
     bO (bM x35 [116,104,114,101,115,104,111,108,100,32]) fun v37=>
     bO (idx a0.thresholds x36) fun v38=>
     bO (xH v38) fun v39=>
     bO (bM v37 v39) fun v40=>
     bO (bM v40 [10]) fun v41=>
     (jZ a0 k290 m2) v41 (w64 (x36+1))
   else
     k290 x35
def rY (a0:SConfig):Option (List UInt8):=
  bO (bM [99,97,112,97,99,105,116,121] [32]) fun v1=>
  bO (dH a0.capacity.a) fun v2=>
  bO (bM v1 v2) fun v3=>
  bO (bM v3 [32]) fun v4=>
  bO (dH a0.capacity.b) fun v5=>
  bO (bM v4 v5) fun v6=>
  bO (bM v6 [32]) fun v7=>
  bO (dH a0.capacity.c) fun v8=>
  bO (bM v7 v8) fun v9=>
  bO (bM v9 [10,97,108,108,111,99,97,116,97,98,108,101]) fun v10=>
  bO (bM v10 [32]) fun v11=>
  bO (dH a0.allocatable.a) fun v12=>
  bO (bM v11 v12) fun v13=>
  bO (bM v13 [32]) fun v14=>
  bO (dH a0.allocatable.b) fun v15=>
  bO (bM v14 v15) fun v16=>
  bO (bM v16 [32]) fun v17=>
  bO (dH a0.allocatable.c) fun v18=>
  bO (bM v17 v18) fun v19=>
  bO (bM v19 [10]) fun v20=>
  jZ a0 (nK a0) aT v20 0
theorem AF {a0:SConfig} {r:List UInt8} (h:rY a0=some r):aI Tryz.prog 16 [gW a0] (.str r):=by
  refine aK Tryz.func16 rfl rfl rfl rfl fun base=>?_
  unfold rY at h
  refine srd 2 rfl [1] [1] rfl (srd 1 rfl [1,3] [1] rfl (aB (srd 1 rfl [1,3,4] [1] rfl (aF (d7 4 (crd (aB (srd 2 rfl [1,3,4,8] [1] rfl (bD rfl (by decide) ?_)))))))))
  refine aE (aB (aF ?_))
  refine aA ?_
  obtain ⟨v1,hv1,h⟩:=bI h
  refine rn 1 rfl (rd (fJ hv1) ?_)
  refine rn 4 rfl ?_
  obtain ⟨v2,hv2,h⟩:=bI h
  refine aP Tryz.call42 (dO hv2) rfl ?_
  obtain ⟨v3,hv3,h⟩:=bI h
  refine rd (fJ hv3) ?_
  refine rn 1 rfl (aC.done [1,3,4] [1] rfl ?_)
  refine aA (rn 3 rfl (aC.done [1,3,4] [1] rfl (crd (aB (srd 2 rfl [1,3,4,8] [1] rfl (bD rfl (by decide) ?_))))))
  refine aE (aB (aF ?_))
  refine aA ?_
  obtain ⟨v4,hv4,h⟩:=bI h
  refine rn 1 rfl (rd (fJ hv4) ?_)
  refine rn 4 rfl ?_
  obtain ⟨v5,hv5,h⟩:=bI h
  refine aP Tryz.call42 (dO hv5) rfl ?_
  obtain ⟨v6,hv6,h⟩:=bI h
  refine rd (fJ hv6) ?_
  refine rn 1 rfl (aC.done [1,3,4] [1] rfl ?_)
  refine aA (rn 3 rfl (aC.done [1,3,4] [1] rfl (crd (aB (srd 2 rfl [1,3,4,8] [1] rfl (bD rfl (by decide) ?_))))))
  refine aE (aB (aF ?_))
  refine aA ?_
  obtain ⟨v7,hv7,h⟩:=bI h
  refine rn 1 rfl (rd (fJ hv7) ?_)
  refine rn 4 rfl ?_
  obtain ⟨v8,hv8,h⟩:=bI h
  refine aP Tryz.call42 (dO hv8) rfl ?_
  obtain ⟨v9,hv9,h⟩:=bI h
  refine rd (fJ hv9) ?_
  refine rn 1 rfl (aC.done [1,3,4] [1] rfl ?_)
  refine aA (rn 3 rfl (aC.done [1,3,4] [1] rfl (crd (aB (srd 2 rfl [1,3,4,8] [1] rfl (dD rfl (by decide) ?_))))))
  refine CWp.exit (aB (aA ?_))
  obtain ⟨v10,hv10,h⟩:=bI h
  refine rn 1 rfl (rd (fJ hv10) ?_)
  refine rn 1 rfl (aC.done [1,3] [1] rfl (aB (srd 1 rfl [1,3,5] [1] rfl (aF (d7 4 (crd (aB (srd 2 rfl [1,3,5,22] [1] rfl (bD rfl (by decide) ?_)))))))))
  refine aE (aB (aF ?_))
  refine aA ?_
  obtain ⟨v11,hv11,h⟩:=bI h
  refine rn 1 rfl (rd (fJ hv11) ?_)
  refine rn 4 rfl ?_
  obtain ⟨v12,hv12,h⟩:=bI h
  refine aP Tryz.call42 (dO hv12) rfl ?_
  obtain ⟨v13,hv13,h⟩:=bI h
  refine rd (fJ hv13) ?_
  refine rn 1 rfl (aC.done [1,3,5] [1] rfl ?_)
  refine aA (rn 3 rfl (aC.done [1,3,5] [1] rfl (crd (aB (srd 2 rfl [1,3,5,22] [1] rfl (bD rfl (by decide) ?_))))))
  refine aE (aB (aF ?_))
  refine aA ?_
  obtain ⟨v14,hv14,h⟩:=bI h
  refine rn 1 rfl (rd (fJ hv14) ?_)
  refine rn 4 rfl ?_
  obtain ⟨v15,hv15,h⟩:=bI h
  refine aP Tryz.call42 (dO hv15) rfl ?_
  obtain ⟨v16,hv16,h⟩:=bI h
  refine rd (fJ hv16) ?_
  refine rn 1 rfl (aC.done [1,3,5] [1] rfl ?_)
  refine aA (rn 3 rfl (aC.done [1,3,5] [1] rfl (crd (aB (srd 2 rfl [1,3,5,22] [1] rfl (bD rfl (by decide) ?_))))))
  refine aE (aB (aF ?_))
  refine aA ?_
  obtain ⟨v17,hv17,h⟩:=bI h
  refine rn 1 rfl (rd (fJ hv17) ?_)
  refine rn 4 rfl ?_
  obtain ⟨v18,hv18,h⟩:=bI h
  refine aP Tryz.call42 (dO hv18) rfl ?_
  obtain ⟨v19,hv19,h⟩:=bI h
  refine rd (fJ hv19) ?_
  refine rn 1 rfl (aC.done [1,3,5] [1] rfl ?_)
  refine aA (rn 3 rfl (aC.done [1,3,5] [1] rfl (crd (aB (srd 2 rfl [1,3,5,22] [1] rfl (dD rfl (by decide) ?_))))))
  refine CWp.exit (aB (aA ?_))
  obtain ⟨v20,hv20,h⟩:=bI h
  refine rn 1 rfl (rd (fJ hv20) ?_)
  refine rn 1 rfl (aC.done [1,3] [1] rfl (aS (fun e=>∃x21,e=⟨[(1,[],.lptr 1 0),(3,[],.str x21)],[],[(1,[zI a0.capacity.a,zI a0.capacity.b,zI a0.capacity.c,zI a0.allocatable.a,zI a0.allocatable.b,zI a0.allocatable.c,.list false 102 (a0.thresholds.map aL),zI a0.period,zI a0.retries,zI a0.maxAge,zI a0.dead])],[],base⟩∧nK a0 x21=some r) ?_ ?_))
  ·refine srd 1 rfl [1,3,6] [1] rfl (aF (aU (fun m2 e=>∃x35 x36,e=⟨[(1,[],.lptr 1 0),(3,[],.str x35),(6,[],zI x36)],[],[(1,[zI a0.capacity.a,zI a0.capacity.b,zI a0.capacity.c,zI a0.allocatable.a,zI a0.allocatable.b,zI a0.allocatable.c,.list false 102 (a0.thresholds.map aL),zI a0.period,zI a0.retries,zI a0.maxAge,zI a0.dead])],[],base⟩∧jZ a0 (nK a0) m2 x35 x36=some r) aT ⟨_,_,rfl,h⟩ ?_ ?_))
   ·rintro m2 _ ⟨x35,x36,rfl,h⟩
    rw [jZ] at h
    refine aB (aB (aA (rh 5 [a0.thresholds.length] [] rfl ⟨List.length_map ..,trivial⟩ (aC.done [1,3,6,39] [1] rfl (aD h rfl (fun h=>?_) (fun h=>?_))))))
    ·refine aE (aB (aF ?_))
     refine aA ?_
     obtain ⟨v37,hv37,h⟩:=bI h
     refine rn 1 rfl (rd (fJ hv37) ?_)
     obtain ⟨v38,hv38,h⟩:=bI h
     refine rn 3 rfl (rd (rIx hv38) ?_)
     refine rn 1 rfl ?_
     obtain ⟨v39,hv39,h⟩:=bI h
     refine aP Tryz.call43 (HU hv39) rfl ?_
     obtain ⟨v40,hv40,h⟩:=bI h
     refine rd (fJ hv40) ?_
     obtain ⟨v41,hv41,h⟩:=bI h
     refine rd (fJ hv41) ?_
     refine rn 1 rfl (aC.done [1,3,6] [1] rfl ?_)
     refine aA (rn 3 rfl (aC.done [1,3,6] [1] rfl ?_))
     exact ⟨_,_,rfl,h⟩
    refine aR [1,3] [1] rfl (CWp.exit ?_)
    exact ⟨_,rfl,h⟩
   rintro _ ⟨_,_,_,h⟩
   rw [jZ] at h;cases h
  rintro _ ⟨x21,rfl,h⟩
  unfold nK at h
  refine aB (CWp.drawn 23 (by kernel_rfl) ?_)
  obtain ⟨v22,hv22,h⟩:=bI h
  refine pn 1 rfl (pd (fJ hv22) ?_)
  refine pn 2 rfl ?_
  obtain ⟨v23,hv23,h⟩:=bI h
  refine kC Tryz.call42 (dO hv23) rfl ?_
  obtain ⟨v24,hv24,h⟩:=bI h
  refine pd (fJ hv24) ?_
  obtain ⟨v25,hv25,h⟩:=bI h
  refine pd (fJ hv25) ?_
  refine pn 2 rfl ?_
  obtain ⟨v26,hv26,h⟩:=bI h
  refine kC Tryz.call42 (dO hv26) rfl ?_
  obtain ⟨v27,hv27,h⟩:=bI h
  refine pd (fJ hv27) ?_
  obtain ⟨v28,hv28,h⟩:=bI h
  refine pd (fJ hv28) ?_
  refine pn 2 rfl ?_
  obtain ⟨v29,hv29,h⟩:=bI h
  refine kC Tryz.call42 (dO hv29) rfl ?_
  obtain ⟨v30,hv30,h⟩:=bI h
  refine pd (fJ hv30) ?_
  obtain ⟨v31,hv31,h⟩:=bI h
  refine pd (fJ hv31) ?_
  refine pn 2 rfl ?_
  obtain ⟨v32,hv32,h⟩:=bI h
  refine kC Tryz.call42 (dO hv32) rfl ?_
  obtain ⟨v33,hv33,h⟩:=bI h
  refine pd (fJ hv33) ?_
  obtain ⟨v34,hv34,h⟩:=bI h
  refine pd (fJ hv34) ?_
  refine pn 1 rfl (b5.nil (aC.done [2] [] rfl ?_))
  cases h;exact aJ ⟨.inl rfl,rfl,rfl⟩
def tG :Option (SDisk×(List ((List UInt8)×(List UInt8)))):=
  some ((⟨([]:List SOp)⟩:SDisk),([]:List ((List UInt8)×(List UInt8))))
theorem yN {r:SDisk×(List ((List UInt8)×(List UInt8)))} (h:tG=some r):aO Tryz.prog 17 [] [] (fun v outs=>∃(h0_:Nat) (h1_:Nat),v= .gptr h0_ 0∧outs=[(h0_,[.gmap h1_,.list true 69 (r.1.open_.map bG)]),(h1_,aV keS (fun (x:List UInt8)=> .list false 5 (x.map zU8)) r.2)]):=by
  refine a8 Tryz.func17 rfl rfl rfl rfl fun base=>?_
  unfold tG at h
  refine srd 1 rfl [] [] rfl (aB (aA (V2 keS (fun (x:List UInt8)=> .list false 5 (x.map zU8)) ?_)))
  rintro o1
  refine rh 1 [] [2] rfl trivial (uV ?_)
  rintro o2-
  refine IN 0 1 69 ?_
  refine rn 1 rfl (aC.done [0] [] rfl (aJ ?_))
  cases h
  exact ⟨.inl rfl,_,[0,0],_,_,rfl,rfl,rfl,o2,o1,rfl,rfl⟩
def wI (a0:Int):Option SWorld:=
  some (⟨(⟨([]:List Bool)⟩:Squeue),a0,([]:List SContainer),([]:List SImage)⟩:SWorld)
theorem DD {a0:Int} {r:SWorld} (h:wI a0=some r):aO Tryz.prog 18 [zI a0] [] (fun v outs=>∃(h0_:Nat) (h0_m2:Nat) (ph0_m2 sh0_m2:Slk 4),v= .gptr h0_ 0∧outs=[(h0_,[.list false 4 (r.queue.l.map zB),zI r.retries,hdM h0_m2 ph0_m2 r.boxes sh0_m2,.list false 150 (r.images.map aQ)]),(h0_m2,lob ph0_m2 aG r.boxes sh0_m2)]):=by
  refine a8 Tryz.func18 rfl rfl rfl rfl fun base=>?_
  unfold wI at h
  refine srd 1 rfl [0] [] rfl (aB (aA (rh 2 [] [4] rfl trivial (uV ?_))))
  rintro o1-
  refine S6 0 0 4 ?_
  refine S6 0 3 150 ?_
  refine L5 (sz:=4) aG 0 2 214 ?_
  rintro m2
  refine rn 1 rfl (aC.objs [1,0] rfl ?_)
  refine aC.done [2] [] rfl (aJ ?_)
  cases h
  exact ⟨.inl rfl,_,[0,0],_,_,rfl,rfl,rfl,o1,m2,(Slk.nil:Slk 4),(Slk.nil:Slk 4),rfl,rfl⟩
def rA (a0:Int):Option Bool:=
  some (((a0==32)||(a0==9))||(a0==13))
theorem xD {a0:Int} {r:Bool} (h:rA a0=some r):aI Tryz.prog 148 [.lit (.int .u8 a0)] (zB r):=by
  refine aK Tryz.func148 rfl rfl rfl rfl fun base=>?_
  unfold rA at h
  refine srd 1 rfl [0] [] rfl (srd 11 rfl [2] [] rfl ?_)
  cases h;exact aJ ⟨.inl rfl,rfl,rfl⟩
def lO (a0:List UInt8):Option Bool:=
  some (decide ((a0.length:Int)≤65536))
def jD (a0:List UInt8) (k290:Option Bool):Nat→Int→Option Bool
  |0,_=>none
  |m2+1,x1=>
   bif decide (x1<(a0.length:Int)) then
     bO (idx a0 x1) fun v2=>
     bO (rA (v2.toNat:Int)) fun v3=>
     bif ((!v3)&&((v2.toNat:Int) !=10))&&((decide ((v2.toNat:Int)<32))||(decide ((v2.toNat:Int)>126))) then none else
     (jD a0 k290 m2) (w64 (x1+1))
   else
     k290
def vB (a0:List UInt8):Option Bool:=
  jD a0 (lO a0) aT 0
theorem F7 {a0:List UInt8} {r:Bool} (h:vB a0=some r):aI Tryz.prog 146 [.list false 5 (a0.map zU8)] (zB r):=by
  refine aK Tryz.func146 rfl rfl rfl rfl fun base=>?_
  unfold vB at h
  refine srd 1 rfl [0] [] rfl (aS (fun e=>e=⟨[(0,[],.list false 5 (a0.map zU8))],[],[],[],base⟩∧lO a0=some r) ?_ ?_)
  ·refine aB (aA (rh 3 [a0.length] [] rfl ⟨List.length_map ..,trivial⟩ (aC.done [0,5,6,7] [] rfl (aF (aU (fun m2 e=>∃x1,e=⟨[(0,[],.list false 5 (a0.map zU8)),(5,[],.list false 5 (a0.map zU8)),(6,[],zI (a0.length:Int)),(7,[],zI x1)],[],[],[],base⟩∧jD a0 (lO a0) m2 x1=some r) aT ⟨_,rfl,h⟩ ?_ ?_)))))
   ·rintro m2 _ ⟨x1,rfl,h⟩
    rw [jD] at h
    refine srd 1 rfl [0,5,6,7,8] [] rfl (aB (aD h rfl (fun h=>?_) (fun h=>?_)))
    ·refine aE (aB (aF (aB (aA ?_))))
     obtain ⟨v2,hv2,h⟩:=bI h
     refine rd (rIx hv2) ?_
     refine rn 2 rfl (aC.done [0,4,5,6,7] [] rfl (aB (aA (rn 1 rfl ?_))))
     obtain ⟨v3,hv3,h⟩:=bI h
     refine aP Tryz.call148 (xD hv3) rfl ?_
     refine rn 13 rfl (aC.done [0,5,6,7,25] [] rfl (aD h rfl (fun h=>?_) (fun h=>?_)))
     ·cases h
     refine aE ?_
     refine aA (rn 2 rfl (aC.done [0,5,6,7] [] rfl ?_))
     exact ⟨_,rfl,h⟩
    refine aR [0] [] rfl (CWp.exit ?_)
    exact ⟨rfl,h⟩
   rintro _ ⟨_,_,h⟩
   rw [jD] at h;cases h
  rintro _ ⟨rfl,h⟩
  unfold lO at h
  refine aB (aA (rh 4 [a0.length] [] rfl ⟨List.length_map ..,trivial⟩ (aC.done [2] [] rfl ?_)))
  cases h;exact aJ ⟨.inl rfl,rfl,rfl⟩
def cJ (x2:List (List SField)):Option ((List (List SField))×Int):=
  some (x2,0)
def eO (x4:Int) (q2:Int→(List (List SField))→Option ((List (List SField))×Int)) (x6:List (List SField)):Option ((List (List SField))×Int):=
  q2 (w64 (x4+1)) x6
def gX (x4:Int) (x5:List (List SField)) (q2:Int→(List (List SField))→Option ((List (List SField))×Int)) (x8:List SField):Option ((List (List SField))×Int):=
  bif decide ((x8.length:Int)>0) then
    bO (bM x5 [x8]) fun v9=>
    eO x4 q2 v9
  else
    eO x4 q2 x5
def vA (q5:(List SField)→Int→Option ((List (List SField))×Int)) (x12:List SField) (x13:Int):Option ((List (List SField))×Int):=
  q5 x12 (w64 (x13+1))
def p6 (x4:Int) (v7:List UInt8) (x10:List SField) (x11:Int) (q5:(List SField)→Int→Option ((List (List SField))×Int)) (x17:Int):Option ((List (List SField))×Int):=
  bO (slO v7 x11 x17) fun v18=>
  bO (bM x10 [(⟨v18,w64 (x4+1),w64 (x11+1)⟩:SField)]) fun v19=>
  vA q5 v19 x17
def mE (v7:List UInt8) (k890:Int→Option ((List (List SField))×Int)):Nat→Int→Option ((List (List SField))×Int)
  |0,_=>none
  |m8+1,x20=>
   bO (bif (decide (x20<(v7.length:Int))) then (idx v7 x20) else some default) fun v21=>
   bO (bif (decide (x20<(v7.length:Int))) then (rA (v21.toNat:Int)) else some default) fun v22=>
   bif (decide (x20<(v7.length:Int)))&&(!v22) then
     (mE v7 k890 m8) (w64 (x20+1))
   else
     k890 x20
def fM (x4:Int) (v7:List UInt8) (k590:(List SField)→Option ((List (List SField))×Int)) (k591:(List (List SField))→Option ((List (List SField))×Int)):Nat→(List SField)→Int→Option ((List (List SField))×Int)
  |0,_,_=>none
  |m5+1,x10,x11=>
   bif decide (x11<(v7.length:Int)) then
     bO (idx v7 x11) fun v14=>
     bO (rA (v14.toNat:Int)) fun v15=>
     bif v15 then none else
     bO (idx v7 x11) fun v16=>
     bif (v16.toNat:Int)==35 then none else
     mE v7 (p6 x4 v7 x10 x11 (fM x4 v7 k590 k591 m5)) aT x11
   else
     k590 x10
def b7 (v3:List (List UInt8)) (k290:(List (List SField))→Option ((List (List SField))×Int)):Nat→Int→(List (List SField))→Option ((List (List SField))×Int)
  |0,_,_=>none
  |m2+1,x4,x5=>
   bif decide (x4<(v3.length:Int)) then
     bO (idx v3 x4) fun v7=>
     fM x4 v7 (gX x4 x5 (b7 v3 k290 m2)) (eO x4 (b7 v3 k290 m2)) aT ([]:List SField) 0
   else
     k290 x5
def A3 (a0:List UInt8):Option ((List (List SField))×Int):=
  bO (vB a0) fun v1=>
  bif !v1 then none else
  bO (NS a0 [10]) fun v3=>
  b7 v3 cJ aT 0 ([]:List (List SField))
theorem K8 {a0:List UInt8} {r:(List (List SField))×Int} (h:A3 a0=some r):aI Tryz.prog 87 [.list false 5 (a0.map zU8)] (.tuple [.list true 180 (r.1.map (fun (x:List SField)=> .list false 184 (x.map eC))),zI r.2]):=by
  refine aK Tryz.func87 rfl rfl rfl rfl fun base=>?_
  unfold A3 at h
  refine srd 2 rfl [0] [] rfl (CWp.scope (aB (aB (aA (rn 1 rfl ?_)))))
  obtain ⟨v1,hv1,h⟩:=bI h
  refine aP Tryz.call146 (F7 hv1) rfl ?_
  refine rn 1 rfl (aC.done [0,12] [] rfl (aD h rfl (fun h=>?_) (fun h=>?_)))
  ·cases h
  refine aE (srd 1 rfl [0,4] [] rfl (aB (CWp.label (aS (fun e=>∃x2,e=⟨[(4,[],.list true 180 (x2.map (fun (x:List SField)=> .list false 184 (x.map eC))))],[],[],[],base⟩∧cJ x2=some r) ?_ ?_))))
  ·refine aB (aA (rn 1 rfl (rd (TZ (l:=a0)) ?_)))
   obtain ⟨v3,hv3,h⟩:=bI h
   refine aP Tryz.call147 (T3 hv3) rfl ?_
   refine rh 2 [v3.length] [] rfl ⟨List.length_map ..,trivial⟩ (aC.done [4,15,16,17] [] rfl (aF (aU (fun m2 e=>∃x4 x5,e=⟨[(4,[],.list true 180 (x5.map (fun (x:List SField)=> .list false 184 (x.map eC)))),(15,[],.list true 9 (v3.map AV.str)),(16,[],zI (v3.length:Int)),(17,[],zI x4)],[],[],[],base⟩∧b7 v3 (cJ) m2 x4 x5=some r) aT ⟨_,_,rfl,h⟩ ?_ ?_)))
   ·rintro m2 _ ⟨x4,x5,rfl,h⟩
    rw [b7] at h
    refine srd 1 rfl [4,15,16,17,18] [] rfl (aB (aD h rfl (fun h=>?_) (fun h=>?_)))
    ·refine aE (aS (fun e=>∃x6,e=⟨[(4,[],.list true 180 (x6.map (fun (x:List SField)=> .list false 184 (x.map eC)))),(15,[],.list true 9 (v3.map AV.str)),(16,[],zI (v3.length:Int)),(17,[],zI x4)],[],[],[],base⟩∧eO x4 (b7 v3 (cJ) m2) x6=some r) ?_ ?_)
     ·refine aF (aB (aA ?_))
      obtain ⟨v7,hv7,h⟩:=bI h
      refine rn 1 rfl (rd (rIx hv7) ?_)
      refine rn 3 rfl (aC.done [4,5,6,15,16,17] [] rfl (srd 1 rfl [4,5,6,7,15,16,17] [] rfl (aS (fun e=>∃x8,e=⟨[(4,[],.list true 180 (x5.map (fun (x:List SField)=> .list false 184 (x.map eC)))),(7,[],.list true 184 (x8.map eC)),(15,[],.list true 9 (v3.map AV.str)),(16,[],zI (v3.length:Int)),(17,[],zI x4)],[],[],[],base⟩∧gX x4 x5 (b7 v3 (cJ) m2) x8=some r) ?_ ?_)))
      ·refine srd 1 rfl [4,5,6,7,8,15,16,17] [] rfl (aF (aU (fun m5 e=>∃x10 x11,e=⟨[(4,[],.list true 180 (x5.map (fun (x:List SField)=> .list false 184 (x.map eC)))),(5,[],zI x4),(6,[],.str v7),(7,[],.list true 184 (x10.map eC)),(8,[],zI x11),(15,[],.list true 9 (v3.map AV.str)),(16,[],zI (v3.length:Int)),(17,[],zI x4)],[],[],[],base⟩∧fM x4 v7 (gX x4 x5 (b7 v3 (cJ) m2)) (eO x4 (b7 v3 (cJ) m2)) m5 x10 x11=some r) aT ⟨_,_,rfl,h⟩ ?_ ?_))
       ·rintro m5 _ ⟨x10,x11,rfl,h⟩
        rw [fM] at h
        refine aB (srd 4 rfl [4,5,6,7,8,15,16,17,25] [] rfl (aD h rfl (fun h=>?_) (fun h=>?_)))
        ·refine aE (aS (fun e=>∃x12 x13,e=⟨[(4,[],.list true 180 (x5.map (fun (x:List SField)=> .list false 184 (x.map eC)))),(5,[],zI x4),(6,[],.str v7),(7,[],.list true 184 (x12.map eC)),(8,[],zI x13),(15,[],.list true 9 (v3.map AV.str)),(16,[],zI (v3.length:Int)),(17,[],zI x4)],[],[],[],base⟩∧vA (fM x4 v7 (gX x4 x5 (b7 v3 (cJ) m2)) (eO x4 (b7 v3 (cJ) m2)) m5) x12 x13=some r) ?_ ?_)
         ·refine aF (aB (aB (aA ?_)))
          obtain ⟨v14,hv14,h⟩:=bI h
          refine rn 2 rfl (rd (rBy hv14) ?_)
          obtain ⟨v15,hv15,h⟩:=bI h
          refine aP Tryz.call148 (xD hv15) rfl ?_
          refine aC.done [4,5,6,7,8,15,16,17,31] [] rfl (aD h rfl (fun h=>?_) (fun h=>?_))
          ·cases h
          refine aE (aB (aB (aA ?_)))
          obtain ⟨v16,hv16,h⟩:=bI h
          refine rn 2 rfl (rd (rBy hv16) ?_)
          refine rn 1 rfl (aC.done [4,5,6,7,8,15,16,17,35] [] rfl (aD h rfl (fun h=>?_) (fun h=>?_)))
          ·cases h
          refine aE (srd 2 rfl [4,5,6,7,8,9,15,16,17] [] rfl (aS (fun e=>∃x17,e=⟨[(4,[],.list true 180 (x5.map (fun (x:List SField)=> .list false 184 (x.map eC)))),(5,[],zI x4),(6,[],.str v7),(7,[],.list true 184 (x10.map eC)),(8,[],zI x17),(9,[],zI x11),(15,[],.list true 9 (v3.map AV.str)),(16,[],zI (v3.length:Int)),(17,[],zI x4)],[],[],[],base⟩∧p6 x4 v7 x10 x11 (fM x4 v7 (gX x4 x5 (b7 v3 (cJ) m2)) (eO x4 (b7 v3 (cJ) m2)) m5) x17=some r) ?_ ?_))
          ·refine aF (aU (fun m8 e=>∃x20,e=⟨[(4,[],.list true 180 (x5.map (fun (x:List SField)=> .list false 184 (x.map eC)))),(5,[],zI x4),(6,[],.str v7),(7,[],.list true 184 (x10.map eC)),(8,[],zI x20),(9,[],zI x11),(15,[],.list true 9 (v3.map AV.str)),(16,[],zI (v3.length:Int)),(17,[],zI x4)],[],[],[],base⟩∧mE v7 (p6 x4 v7 x10 x11 (fM x4 v7 (gX x4 x5 (b7 v3 (cJ) m2)) (eO x4 (b7 v3 (cJ) m2)) m5)) m8 x20=some r) aT ⟨_,rfl,h⟩ ?_ ?_)
           ·rintro m8 _ ⟨x20,rfl,h⟩
            rw [mE] at h
            refine aB (aB (aA ?_))
            obtain ⟨v21,hv21,h⟩:=bI h
            refine rn 7 rfl (rdg 48 true [] (fun ht=>rBy (gd hv21 (ht.1 _ rfl))) ?_)
            obtain ⟨v22,hv22,h⟩:=bI h
            refine gV 48 true [] Tryz.call148 (fun ht=>xD (gd hv22 (ht.1 _ rfl))) rfl ?_
            refine rn 2 rfl (aC.done [4,5,6,7,8,9,15,16,17,54] [] rfl (aD h rfl (fun h=>?_) (fun h=>?_)))
            ·refine aE (aF ?_)
             refine aA (rn 3 rfl (aC.done [4,5,6,7,8,9,15,16,17] [] rfl ?_))
             exact ⟨_,rfl,h⟩
            refine aR [4,5,6,7,8,9,15,16,17] [] rfl (CWp.exit ?_)
            exact ⟨_,rfl,h⟩
           rintro _ ⟨_,_,h⟩
           rw [mE] at h;cases h
          rintro _ ⟨x17,rfl,h⟩
          unfold p6 at h
          refine aA ?_
          obtain ⟨v18,hv18,h⟩:=bI h
          refine rh 4 [] [57] rfl trivial (rd (WN hv18) ?_)
          obtain ⟨v19,hv19,h⟩:=bI h
          refine rn 6 rfl (iG (f:=eC) hv19 ?_)
          refine rh 1 [] [7] rfl trivial (aC.done [4,5,6,7,8,15,16,17] [] rfl ?_)
          exact ⟨_,_,rfl,h⟩
         rintro _ ⟨x12,x13,rfl,h⟩
         unfold vA at h
         refine aA (rn 3 rfl (aC.done [4,5,6,7,8,15,16,17] [] rfl ?_))
         exact ⟨_,_,rfl,h⟩
        refine aR [4,7,15,16,17] [] rfl (CWp.exit ?_)
        exact ⟨_,rfl,h⟩
       rintro _ ⟨_,_,_,h⟩
       rw [fM] at h;cases h
      rintro _ ⟨x8,rfl,h⟩
      unfold gX at h
      refine aB (aA (rh 3 [x8.length] [] rfl ⟨List.length_map ..,trivial⟩ (aC.done [4,7,15,16,17,71] [] rfl (aD h rfl (fun h=>?_) (fun h=>?_)))))
      ·refine aA ?_
       obtain ⟨v9,hv9,h⟩:=bI h
       refine rh 3 [] [72] rfl trivial (iG (f:=(fun (x:List SField)=> .list false 184 (x.map eC))) hv9 ?_)
       refine rh 1 [] [4] rfl trivial (aC.done [4,15,16,17] [] rfl ?_)
       exact ⟨_,rfl,h⟩
      refine aR [4,15,16,17] [] rfl (aE ?_)
      exact ⟨_,rfl,h⟩
     rintro _ ⟨x6,rfl,h⟩
     unfold eO at h
     refine aA (rn 2 rfl (aC.done [4,15,16,17] [] rfl ?_))
     exact ⟨_,_,rfl,h⟩
    refine aR [4] [] rfl (CWp.exit ?_)
    exact ⟨_,rfl,h⟩
   rintro _ ⟨_,_,_,h⟩
   rw [b7] at h;cases h
  rintro _ ⟨x2,rfl,h⟩
  unfold cJ at h
  refine aB (aA (rh 3 [] [77,2] rfl trivial (aC.done [2,3] [] rfl ?_)))
  cases h;exact aJ ⟨.inl rfl,rfl,rfl⟩
def vO :Option (List (List UInt8)):=
  some [[109,101,109,111,114,121],[100,105,115,107],[112,105,100]]
theorem GD {r:List (List UInt8)} (h:vO=some r):aI Tryz.prog 263 [] (.list true 9 (r.map AV.str)):=by
  refine aK Tryz.func263 rfl rfl rfl rfl fun base=>?_
  unfold vO at h
  refine srd 1 rfl [] [] rfl (aB (aA (rh 2 [] [0] rfl trivial (aC.done [0] [] rfl ?_))))
  cases h;exact aJ ⟨.inl rfl,rfl,rfl⟩
def f8 (a0:List (List UInt8)) (a1:List UInt8):Nat→Option Int
  |0=>none
  |_m1+1=>
   bif decide (0<(a0.length:Int)) then
     bO (idx a0 0) fun v1=>
     bif a1==v1 then
       some 0
     else none
   else none
def iU (a0:List (List UInt8)) (a1:List UInt8):Option Int:=
  f8 a0 a1 aT
theorem qV {a0:List (List UInt8)} {a1:List UInt8} {r:Int} (h:iU a0 a1=some r):aI Tryz.prog 177 [.list false 9 (a0.map AV.str),.str a1] (zI r):=by
  refine aK Tryz.func177 rfl rfl rfl rfl fun base=>?_
  unfold iU at h
  refine srd 1 rfl [0,1] [] rfl (aB (aB (aA (rh 3 [a0.length] [] rfl ⟨List.length_map ..,trivial⟩ (aC.done [0,1,7,8] [] rfl (aF (aU (fun m1 e=>e=⟨[(0,[],.list false 9 (a0.map AV.str)),(1,[],.str a1),(7,[],zI (a0.length:Int)),(8,[],zI 0)],[],[],[],base⟩∧f8 a0 a1 m1=some r) aT ⟨rfl,h⟩ ?_ ?_)))))))
  ·rintro m1 _ ⟨rfl,h⟩
   rw [f8] at h
   refine srd 1 rfl [0,1,7,8,9] [] rfl (aB (aD h rfl (fun h=>?_) (fun h=>?_)))
   ·refine aE (aB (aF (srd 2 rfl [0,1,5,7,8] [] rfl (aB (aA ?_)))))
    obtain ⟨v1,hv1,h⟩:=bI h
    refine rn 3 rfl (rd (rIx hv1) ?_)
    refine rn 2 rfl (aC.done [0,1,5,7,8,16] [] rfl (aD h rfl (fun h=>?_) (fun h=>?_)))
    ·refine srd 2 rfl [4] [] rfl ?_
     cases h;exact aJ ⟨.inl rfl,rfl,rfl⟩
    cases h
   cases h
  rintro _ ⟨_,h⟩
  rw [f8] at h;cases h
def t6 (a0:List UInt8):Option (Int×Bool):=
  bO (vO) fun v1=>
  bO (iU v1 a0) fun v2=>
  some (max v2 0,decide (v2≥0))
theorem E9 {a0:List UInt8} {r:Int×Bool} (h:t6 a0=some r):aI Tryz.prog 204 [.str a0] (.tuple [zI r.1,zB r.2]):=by
  refine aK Tryz.func204 rfl rfl rfl rfl fun base=>?_
  unfold t6 at h
  refine srd 2 rfl [0] [] rfl (aB (aA ?_))
  obtain ⟨v1,hv1,h⟩:=bI h
  refine aP Tryz.call263 (GD hv1) rfl ?_
  refine rn 1 rfl ?_
  obtain ⟨v2,hv2,h⟩:=bI h
  refine aP Tryz.call177 (qV hv2) rfl ?_
  refine rn 1 rfl (aC.done [4] [] rfl (srd 6 rfl [2,3] [] rfl ?_))
  cases h;exact aJ ⟨.inl rfl,rfl,rfl⟩
def t7 (a0:List UInt8):Option Int:=
  bO (P9 a0) fun v1=>
  bO (bif (!v1.2) then some default else (QT v1.1)) fun v2=>
  bif (!v1.2)||(!(v2==a0)) then none else
  some v1.1
theorem FA {a0:List UInt8} {r:Int} (h:t7 a0=some r):aI Tryz.prog 205 [.str a0] (zI r):=by
  refine aK Tryz.func205 rfl rfl rfl rfl fun base=>?_
  unfold t7 at h
  refine srd 1 rfl [0] [] rfl (aB (aA (rn 1 rfl ?_)))
  obtain ⟨v1,hv1,h⟩:=bI h
  refine bL [] Tryz.call264 (UV hv1) rfl rfl ?_
  rintro _ _ ⟨tev1,pev1,rfl,rfl⟩
  refine rn 5 rfl (aC.done [0,3,4] [] rfl (aB (aB (aA (rn 1 rfl (rd (XN Tryz.underlying371) ?_))))))
  refine rn 2 rfl ?_
  obtain ⟨v2,hv2,h⟩:=bI h
  refine gV 12 false [] Tryz.call265 (fun ht=>VH (gdf hv2 (ht.1 _ rfl))) rfl ?_
  refine rn 3 rfl (aC.done [3,17] [] rfl (aD h rfl (fun h=>?_) (fun h=>?_)))
  ·cases h
  refine aE (srd 2 rfl [2] [] rfl ?_)
  cases h;exact aJ ⟨.inl rfl,rfl,rfl⟩
end
section
open Go.RowKit
def yX (a0:List UInt8):Option Int:=
  bif a0==([]:List UInt8) then
    some 1
  else none
theorem I8 {a0:List UInt8} {r:Int} (h:yX a0=some r):aI Tryz.prog 268 [.str a0] (zI r):=by
  refine aK Tryz.func268 rfl rfl rfl rfl fun base=>?_
  unfold yX at h
  refine aB (aA (uV ?_))
  rintro o1-
  refine rn 1 rfl (aC.done [1] [] rfl (aB (aB (aA (rh 2 [0] [] rfl ⟨rfl,trivial⟩ (aC.done [1,6] [] rfl (aD h rfl (fun h=>?_) (fun h=>?_))))))))
  ·refine aB (aA (rn 1 rfl (aC.objs [] rfl ?_)))
   refine aC.done [2] [] rfl ?_
   cases h;exact aJ ⟨.inl rfl,rfl,rfl⟩
  cases h
def mJ (a0:Int):Option Int:=
  some (max a0 0)
theorem qB {a0:Int} {r:Int} (h:mJ a0=some r):aI Tryz.prog 117 [zI a0] (zI r):=by
  refine aK Tryz.func117 rfl rfl rfl rfl fun base=>?_
  unfold mJ at h
  refine srd 1 rfl [0] [] rfl (srd 3 rfl [2] [] rfl ?_)
  cases h;exact aJ ⟨.inl rfl,rfl,rfl⟩
def AG (a0:Int) (a1:Int):Option Int:=
  bO (mJ a0) fun v1=>
  bO (mJ a1) fun v2=>
  bO (bif (decide (v2>0)) then (Q2 .i64 9223372036854775807 v2) else some default) fun v3=>
  bif (decide (v2>0))&&(decide (v1>v3)) then none else
  some (w64 (v1*v2))
theorem FJ {a0:Int} {a1:Int} {r:Int} (h:AG a0 a1=some r):aI Tryz.prog 269 [zI a0,zI a1] (zI r):=by
  refine aK Tryz.func269 rfl rfl rfl rfl fun base=>?_
  unfold AG at h
  refine srd 1 rfl [0,1] [] rfl (aB (aA (rn 1 rfl ?_)))
  obtain ⟨v1,hv1,h⟩:=bI h
  refine aP Tryz.call117 (qB hv1) rfl ?_
  refine rn 1 rfl ?_
  obtain ⟨v2,hv2,h⟩:=bI h
  refine aP Tryz.call117 (qB hv2) rfl ?_
  refine rn 2 rfl (aC.done [0,1] [] rfl (aB (aB (aA ?_))))
  obtain ⟨v3,hv3,h⟩:=bI h
  refine rn 5 rfl (rdg 11 true [] (fun ht=>WM (gd hv3 (ht.1 _ rfl))) ?_)
  refine rn 2 rfl (aC.done [0,1,16] [] rfl (aD h rfl (fun h=>?_) (fun h=>?_)))
  ·cases h
  refine aE (srd 4 rfl [4] [] rfl ?_)
  cases h;exact aJ ⟨.inl rfl,rfl,rfl⟩
def sV (a0:Int) (a1:Int):Option Int:=
  bO (mJ a0) fun v1=>
  bO (mJ a1) fun v2=>
  some (w64 (v1+(min v2 (w64 (9223372036854775807-v1)))))
theorem wH {a0:Int} {a1:Int} {r:Int} (h:sV a0 a1=some r):aI Tryz.prog 68 [zI a0,zI a1] (zI r):=by
  refine aK Tryz.func68 rfl rfl rfl rfl fun base=>?_
  unfold sV at h
  refine srd 1 rfl [0,1] [] rfl (aB (aA (rn 1 rfl ?_)))
  obtain ⟨v1,hv1,h⟩:=bI h
  refine aP Tryz.call117 (qB hv1) rfl ?_
  refine rn 1 rfl ?_
  obtain ⟨v2,hv2,h⟩:=bI h
  refine aP Tryz.call117 (qB hv2) rfl ?_
  refine rn 2 rfl (aC.done [0,1] [] rfl (srd 7 rfl [4] [] rfl ?_))
  cases h;exact aJ ⟨.inl rfl,rfl,rfl⟩
def oO (v3:Int) (x4:Int):Option (Int×Int):=
  bO (AG x4 v3) fun v5=>
  some (v5,0)
def kP (v2:List UInt8) (k290:Int→Option (Int×Int)):Nat→Int→Int→Option (Int×Int)
  |0,_,_=>none
  |m2+1,x7,x8=>
   bif decide (x7<(v2.length:Int)) then
     bO (idx v2 x7) fun v9=>
     bO (AG x8 10) fun v10=>
     bO (sV v10 (w64 (IntKind.u8.wrap ((v9.toNat:Int)-48)))) fun v11=>
     (kP v2 k290 m2) (w64 (x7+1)) v11
   else
     k290 x8
def yW (a0:List UInt8):Option (Int×Int):=
  bO (RD a0 [48,49,50,51,52,53,54,55,56,57]) fun v1=>
  bO (slO a0 0 (w64 ((a0.length:Int)-(v1.length:Int)))) fun v2=>
  bO (yX v1) fun v3=>
  bif (v2==([]:List UInt8))||(v3==0) then none else
  bO (DW v2) fun _v6=>
  kP v2 (oO v3) aT 0 0
theorem I7 {a0:List UInt8} {r:Int×Int} (h:yW a0=some r):aI Tryz.prog 207 [.str a0] (.tuple [zI r.1,zI r.2]):=by
  refine aK Tryz.func207 rfl rfl rfl rfl fun base=>?_
  unfold yW at h
  refine srd 2 rfl [0] [] rfl (aB (aA (rn 1 rfl ?_)))
  obtain ⟨v1,hv1,h⟩:=bI h
  refine aP Tryz.call267 (VP hv1) rfl ?_
  refine rn 1 rfl (aC.done [0,4] [] rfl (aB (aA ?_)))
  obtain ⟨v2,hv2,h⟩:=bI h
  refine rn 6 rfl (rd (WN hv2) ?_)
  refine rn 1 rfl (aC.done [4,5] [] rfl (aB (aA (rn 1 rfl ?_))))
  obtain ⟨v3,hv3,h⟩:=bI h
  refine aP Tryz.call268 (I8 hv3) rfl ?_
  refine rn 1 rfl (aC.done [5,6] [] rfl (aB (srd 6 rfl [5,6,26] [] rfl (aD h rfl (fun h=>?_) (fun h=>?_)))))
  ·cases h
  refine aE (srd 1 rfl [5,6,7] [] rfl (aS (fun e=>∃x4,e=⟨[(6,[],zI v3),(7,[],zI x4)],[],[],[],base⟩∧oO v3 x4=some r) ?_ ?_))
  ·refine aB (aA ?_)
   obtain ⟨v6,hv6,h⟩:=bI h
   refine rn 1 rfl (L4 (DX hv6).1 ?_)
   refine rh 2 [v2.length] [] rfl ⟨List.length_map ..,trivial⟩ (aC.done [6,7,28,29,30] [] rfl (aF (aU (fun m2 e=>∃x7 x8,e=⟨[(6,[],zI v3),(7,[],zI x8),(28,[],.list false 5 (v2.map zU8)),(29,[],zI (v2.length:Int)),(30,[],zI x7)],[],[],[],base⟩∧kP v2 (oO v3) m2 x7 x8=some r) aT ⟨_,_,rfl,h⟩ ?_ ?_)))
   ·rintro m2 _ ⟨x7,x8,rfl,h⟩
    rw [kP] at h
    refine srd 1 rfl [6,7,28,29,30,31] [] rfl (aB (aD h rfl (fun h=>?_) (fun h=>?_)))
    ·refine aE (aB (aF (aB (aA ?_))))
     obtain ⟨v9,hv9,h⟩:=bI h
     refine rd (rIx hv9) ?_
     refine rn 2 rfl (aC.done [6,7,9,28,29,30] [] rfl ?_)
     refine aA (rn 1 rfl ?_)
     obtain ⟨v10,hv10,h⟩:=bI h
     refine aP Tryz.call269 (FJ hv10) rfl ?_
     refine rn 3 rfl ?_
     obtain ⟨v11,hv11,h⟩:=bI h
     refine aP Tryz.call68 (wH hv11) rfl ?_
     refine rn 1 rfl (aC.done [6,7,28,29,30] [] rfl ?_)
     refine aA (rn 2 rfl (aC.done [6,7,28,29,30] [] rfl ?_))
     exact ⟨_,_,rfl,h⟩
    refine aR [6,7] [] rfl (CWp.exit ?_)
    exact ⟨_,rfl,h⟩
   rintro _ ⟨_,_,_,h⟩
   rw [kP] at h;cases h
  rintro _ ⟨x4,rfl,h⟩
  unfold oO at h
  refine aB (aA (rn 2 rfl ?_))
  obtain ⟨v5,hv5,h⟩:=bI h
  refine aP Tryz.call269 (FJ hv5) rfl ?_
  refine rn 2 rfl (aC.done [2,3] [] rfl ?_)
  cases h;exact aJ ⟨.inl rfl,rfl,rfl⟩
def qR (a0:SThreshold):Option Bool:=
  bif (decide (a0.signal<0))||(decide (a0.signal≥3)) then none else
  some (((((decide (a0.percent≥1))&&(decide (a0.percent≤100)))&&(a0.amount==0))||((a0.percent==0)&&(decide (a0.amount>0))))&&(((a0.soft&&(decide (a0.grace≥1)))&&(decide (a0.grace≤1000)))||((!a0.soft)&&(a0.grace==0))))
theorem zA {a0:SThreshold} {r:Bool} (h:qR a0=some r):aI Tryz.prog 154 [aL a0] (zB r):=by
  refine aK Tryz.func154 rfl rfl rfl rfl fun base=>?_
  unfold qR at h
  refine srd 2 rfl [1] [1] rfl (aB (srd 8 rfl [1,13] [1] rfl (aD h rfl (fun h=>?_) (fun h=>?_))))
  ·cases h
  refine aE (srd 14 rfl [1,3] [1] rfl (srd 9 rfl [1,3,4] [1] rfl (srd 23 rfl [3,4,5] [] rfl (srd 8 rfl [2] [] rfl ?_))))
  cases h;exact aJ ⟨.inl rfl,rfl,rfl⟩
def sG (v1:List UInt8×List UInt8×Bool) (v2:Int×Bool) (v3:List UInt8×List UInt8×Bool) (x4:Int):Option (SThreshold×Int):=
  bO (bif ((!v1.2.2)||(!v2.2)) then some default else (qR (⟨v2.1,x4,0,v3.2.2,0⟩:SThreshold))) fun v5=>
  bif ((!v1.2.2)||(!v2.2))||(!v5) then none else
  some ((⟨v2.1,x4,0,v3.2.2,0⟩:SThreshold),0)
def sF (v1:List UInt8×List UInt8×Bool) (v2:Int×Bool) (v3:List UInt8×List UInt8×Bool):Option (SThreshold×Int):=
  bO (T6 v3.1 [37]) fun v6=>
  bif v6.2 then
    bO (t7 v6.1) fun v7=>
    sG v1 v2 v3 v7
  else none
def xP (a0:List UInt8):Option (SThreshold×Int):=
  bO (QL a0 [60]) fun v1=>
  bO (t6 v1.1) fun v2=>
  bO (QL v1.2.1 [58]) fun v3=>
  bif v3.2.2 then none else
  sF v1 v2 v3
theorem H2 {a0:List UInt8} {r:SThreshold×Int} (h:xP a0=some r):aI Tryz.prog 149 [.str a0] (.tuple [aL r.1,zI r.2]):=by
  refine aK Tryz.func149 rfl rfl rfl rfl fun base=>?_
  unfold xP at h
  refine srd 2 rfl [0,2] [2] rfl (srd 1 rfl [0,2,4] [2,4] rfl (aB (aA (rn 1 rfl ?_))))
  obtain ⟨v1,hv1,h⟩:=bI h
  refine aP Tryz.call203 (R0 hv1) rfl ?_
  refine rn 7 rfl (aC.done [2,4,5,6,7] [2,4] rfl (aB (aA (rn 1 rfl ?_))))
  obtain ⟨v2,hv2,h⟩:=bI h
  refine aP Tryz.call204 (E9 hv2) rfl ?_
  refine rn 5 rfl (aC.done [2,4,6,7,8,9] [2,4] rfl (aB (aA (rn 1 rfl ?_))))
  obtain ⟨v3,hv3,h⟩:=bI h
  refine aP Tryz.call203 (R0 hv3) rfl ?_
  refine rn 7 rfl (aC.done [2,4,7,8,9,10,11,12] [2,4] rfl (srd 6 rfl [2,4,7,9,10,11,12] [2,4] rfl (aS (fun e=>e=⟨[(2,[],.lptr 2 0),(4,[],.lptr 4 0),(7,[],zB v1.2.2),(9,[],zB v2.2),(10,[],.str v3.1)],[],[(2,[zI 0,zI 0,zI 0,zB false,zI 0]),(4,[zI v2.1,zI 0,zI 0,zB v3.2.2,zI 0])],[],base⟩∧sF v1 v2 v3=some r) ?_ ?_)))
  ·refine srd 1 rfl [2,4,7,9,10,11,36] [2,4] rfl (aD h rfl (fun h=>?_) (fun h=>?_))
   ·cases h
   refine aR [2,4,7,9,10] [2,4] rfl (aE ?_)
   exact ⟨rfl,h⟩
  rintro _ ⟨rfl,h⟩
  unfold sF at h
  refine aS (fun e=>∃x4,e=⟨[(2,[],.lptr 2 0),(4,[],.lptr 4 0),(7,[],zB v1.2.2),(9,[],zB v2.2)],[],[(2,[zI 0,zI 0,zI 0,zB false,zI 0]),(4,[zI v2.1,zI x4,zI 0,zB v3.2.2,zI 0])],[],base⟩∧sG v1 v2 v3 x4=some r) ?_ ?_
  ·refine aB (aA (rn 1 rfl ?_))
   obtain ⟨v6,hv6,h⟩:=bI h
   refine aP Tryz.call206 (WP hv6) rfl ?_
   refine rn 5 rfl (aC.done [2,4,7,9,10,13,14] [2,4] rfl (srd 1 rfl [2,4,7,9,10,13,45] [2,4] rfl (aD h rfl (fun h=>?_) (fun h=>?_))))
   ·refine aA (rn 1 rfl ?_)
    obtain ⟨v7,hv7,h⟩:=bI h
    refine aP Tryz.call205 (FA hv7) rfl ?_
    refine rn 2 rfl (aC.done [2,4,7,9] [2,4] rfl ?_)
    exact ⟨_,rfl,h⟩
   cases h
  rintro _ ⟨x4,rfl,h⟩
  unfold sG at h
  refine aB (aB (aA (rn 8 rfl (iB [2,4,61,62] rfl ?_))))
  obtain ⟨v5,hv5,h⟩:=bI h
  refine gV 61 false [] Tryz.call154 (fun ht=>zA (gdf hv5 (ht.1 _ rfl))) rfl ?_
  refine rn 2 rfl (aC.done [2,4,65] [2,4] rfl (aD h rfl (fun h=>?_) (fun h=>?_)))
  ·cases h
  refine aE (srd 3 rfl [2,3] [2] rfl ?_)
  cases h;exact aJ ⟨.inl rfl,rfl,rfl⟩
def p4 (x1:Int) (x2:Int) (x3:Int) (x4:Int) (x5:Int) (x6:Int) (x7:List SThreshold) (x8:Int) (x9:Int) (x10:Int) (x11:Int):Option (Int×SConfig):=
  some (0,(⟨(⟨x1,x2,x3⟩:V3 Int),(⟨x4,x5,x6⟩:V3 Int),x7,x8,x9,x10,x11⟩:SConfig))
def mB (a0:List Nat) (a1:List SField) (k290:Int→Int→Int→Int→Int→Int→(List SThreshold)→Int→Int→Int→Int→Option (Int×SConfig)):Nat→Int→Int→Int→Int→Int→Int→Int→(List SThreshold)→Int→Int→Int→Int→Option (Int×SConfig)
  |0,_,_,_,_,_,_,_,_,_,_,_,_=>none
  |m2+1,x12,x13,x14,x15,x16,x17,x18,x19,x20,x21,x22,x23=>
   bif decide (x23<(a1.length:Int)) then
     bO (idx a1 x23) fun v24=>
     bO (yW v24.text) fun v25=>
     bif v25.2 !=0 then none else
     bO (idx a0 x23) fun v26=>
     bO (CY (⟨(⟨x12,x13,x15⟩:V3 Int),(⟨x16,x17,x18⟩:V3 Int),x19,x20,x21,x22,x14⟩:SConfig) v25.1 v26) fun v27=>
     (mB a0 a1 k290 m2) v27.capacity.a v27.capacity.b v27.dead v27.capacity.c v27.allocatable.a v27.allocatable.b v27.allocatable.c v27.thresholds v27.period v27.retries v27.maxAge (w64 (x23+1))
   else
     k290 x12 x13 x15 x16 x17 x18 x19 x20 x21 x22 x14
def AY (a0:List Nat) (x0:SConfig) (a1:List SField):Option (Int×SConfig):=
  bif (a1.length:Int) !=(a0.length:Int) then none else
  mB a0 a1 p4 aT x0.capacity.a x0.capacity.b x0.dead x0.capacity.c x0.allocatable.a x0.allocatable.b x0.allocatable.c x0.thresholds x0.period x0.retries x0.maxAge 0
theorem K3 {a0:List Nat} {x0:SConfig} {a1:List SField} {i0:Nat} {r:Int×SConfig} (h:AY a0 x0 a1=some r):aO Tryz.prog 150 [.list false 262 (a0.map fun k=> .gptr i0 k),.list false 184 (a1.map eC)] [(i0,[zI x0.capacity.a,zI x0.capacity.b,zI x0.capacity.c,zI x0.allocatable.a,zI x0.allocatable.b,zI x0.allocatable.c,.list true 102 (x0.thresholds.map aL),zI x0.period,zI x0.retries,zI x0.maxAge,zI x0.dead])] (fun v outs=>v=zI r.1∧outs=[(i0,[zI r.2.capacity.a,zI r.2.capacity.b,zI r.2.capacity.c,zI r.2.allocatable.a,zI r.2.allocatable.b,zI r.2.allocatable.c,.list true 102 (r.2.thresholds.map aL),zI r.2.period,zI r.2.retries,zI r.2.maxAge,zI r.2.dead])]):=by
  refine a8 Tryz.func150 rfl rfl rfl rfl fun base=>?_
  unfold AY at h
  refine srd 1 rfl [0,1] [] rfl (aB (aB (aA (rh 5 [a1.length,a0.length] [] rfl ⟨List.length_map ..,List.length_map ..,trivial⟩ (aC.done [0,1,13] [] rfl (aD h rfl (fun h=>?_) (fun h=>?_)))))))
  ·cases h
  refine aE (aS (fun e=>∃x1 x2 x3 x4 x5 x6 x7 x8 x9 x10 x11,e=⟨[],[],[],[(i0,[zI x1,zI x2,zI x3,zI x4,zI x5,zI x6,.list true 102 (x7.map aL),zI x8,zI x9,zI x10,zI x11])],base⟩∧p4 x1 x2 x3 x4 x5 x6 x7 x8 x9 x10 x11=some r) ?_ ?_)
  ·refine aB (aA (rh 3 [a1.length] [] rfl ⟨List.length_map ..,trivial⟩ (aC.done [0,14,15,16] [] rfl (aF (aU (fun m2 e=>∃x12 x13 x14 x15 x16 x17 x18 x19 x20 x21 x22 x23,e=⟨[(0,[],.list false 262 (a0.map fun k=> .gptr i0 k)),(14,[],.list false 184 (a1.map eC)),(15,[],zI (a1.length:Int)),(16,[],zI x23)],[],[],[(i0,[zI x12,zI x13,zI x15,zI x16,zI x17,zI x18,.list true 102 (x19.map aL),zI x20,zI x21,zI x22,zI x14])],base⟩∧mB a0 a1 (p4) m2 x12 x13 x14 x15 x16 x17 x18 x19 x20 x21 x22 x23=some r) aT ⟨_,_,_,_,_,_,_,_,_,_,_,_,rfl,h⟩ ?_ ?_)))))
   ·rintro m2 _ ⟨x12,x13,x14,x15,x16,x17,x18,x19,x20,x21,x22,x23,rfl,h⟩
    rw [mB] at h
    refine srd 1 rfl [0,14,15,16,17] [] rfl (aB (aD h rfl (fun h=>?_) (fun h=>?_)))
    ·refine aE (aB (aF (aB (aA ?_))))
     obtain ⟨v24,hv24,h⟩:=bI h
     refine rn 1 rfl (rd (rIx hv24) ?_)
     refine rn 4 rfl (aC.done [0,5,6,14,15,16] [6] rfl (aB (aA (rn 2 rfl ?_))))
     obtain ⟨v25,hv25,h⟩:=bI h
     refine aP Tryz.call207 (I7 hv25) rfl ?_
     refine rn 5 rfl (aC.done [0,5,7,8,14,15,16] [] rfl (aB (srd 2 rfl [0,5,7,8,14,15,16,28] [] rfl (aD h rfl (fun h=>?_) (fun h=>?_)))))
     ·cases h
     refine aE ?_
     refine aA ?_
     obtain ⟨v26,hv26,h⟩:=bI h
     refine rn 2 rfl (rd (rIx (f:=(fun k=> .gptr i0 k)) hv26) ?_)
     obtain ⟨v27,hv27,h⟩:=bI h
     refine rn 3 rfl ?_
     obtain ⟨⟨_,hpv27⟩,hqv27⟩:=LK hv27
     refine XE 0 [zI v27.capacity.a,zI v27.capacity.b,zI v27.capacity.c,zI v27.allocatable.a,zI v27.allocatable.b,zI v27.allocatable.c,.list true 102 (v27.thresholds.map aL),zI v27.period,zI v27.retries,zI v27.maxAge,zI v27.dead] hpv27 hqv27 ?_
     refine aC.done [0,14,15,16] [] rfl ?_
     refine aA (rn 2 rfl (aC.done [0,14,15,16] [] rfl ?_))
     exact ⟨_,_,_,_,_,_,_,_,_,_,_,_,rfl,h⟩
    refine aR [] [] rfl (CWp.exit ?_)
    exact ⟨_,_,_,_,_,_,_,_,_,_,_,rfl,h⟩
   rintro _ ⟨_,_,_,_,_,_,_,_,_,_,_,_,_,h⟩
   rw [mB] at h;cases h
  rintro _ ⟨x1,x2,x3,x4,x5,x6,x7,x8,x9,x10,x11,rfl,h⟩
  unfold p4 at h
  refine srd 1 rfl [4] [] rfl ?_
  cases h;exact aJ ⟨.inl rfl,_,[0],_,_,rfl,rfl,rfl,rfl,rfl⟩
def AZ (a0:SConfig) (a1:List ((List UInt8)×Int)) (a2:List SField):Option (Int×SConfig×(List ((List UInt8)×Int))):=
  bO (idx a2 0) fun v1=>
  bif (v1.text==[116,104,114,101,115,104,111,108,100])&&((a2.length:Int)==2) then
    bO (idx a2 1) fun v2=>
    bO (xP v2.text) fun v3=>
    bO (bM a0.thresholds [v3.1]) fun v4=>
    some (v3.2,(⟨a0.capacity,a0.allocatable,v4,a0.period,a0.retries,a0.maxAge,a0.dead⟩:SConfig),a1)
  else
    bif !((cO v1.text Q0).isSome) then none else
    bO (slO a2 1 (a2.length:Int)) fun v6=>
    bO (AY ((cO v1.text Q0).getD ([]:List Nat)) a0 v6) fun v7=>
    bif v7.1 !=0 then none else
    bif decide (((cO v1.text (xR v1.text (w64 (((cO v1.text a1).getD (0:Int))+1)) a1)).getD (0:Int))>1) then none else
    some (0,v7.2,xR v1.text (w64 (((cO v1.text a1).getD (0:Int))+1)) a1)
theorem K4 {a0:SConfig} {a1:List ((List UInt8)×Int)} {a2:List SField} {i0 i1:Nat} {r:Int×SConfig×(List ((List UInt8)×Int))} (h:AZ a0 a1 a2=some r):aO Tryz.prog 88 [.gptr i0 0,.gmap i1,.list false 184 (a2.map eC)] [(i0,[zI a0.capacity.a,zI a0.capacity.b,zI a0.capacity.c,zI a0.allocatable.a,zI a0.allocatable.b,zI a0.allocatable.c,.list true 102 (a0.thresholds.map aL),zI a0.period,zI a0.retries,zI a0.maxAge,zI a0.dead]),(i1,aV keS zI a1)] (fun v outs=>v=zI r.1∧outs=[(i0,[zI r.2.1.capacity.a,zI r.2.1.capacity.b,zI r.2.1.capacity.c,zI r.2.1.allocatable.a,zI r.2.1.allocatable.b,zI r.2.1.allocatable.c,.list true 102 (r.2.1.thresholds.map aL),zI r.2.1.period,zI r.2.1.retries,zI r.2.1.maxAge,zI r.2.1.dead]),(i1,aV keS zI r.2.2)]):=by
  refine a8 Tryz.func88 rfl rfl rfl rfl fun base=>?_
  unfold AZ at h
  refine srd 1 rfl [0,1,2] [] rfl (aB (aA ?_))
  obtain ⟨v1,hv1,h⟩:=bI h
  refine rn 1 rfl (rd (rIx hv1) ?_)
  refine rn 3 rfl (aC.done [0,1,2,7] [] rfl (aB (aB (aA (rh 7 [a2.length] [] rfl ⟨List.length_map ..,trivial⟩ (aC.done [0,1,2,7,23] [] rfl (aD h rfl (fun h=>?_) (fun h=>?_))))))))
  ·refine aB (aA ?_)
   obtain ⟨v2,hv2,h⟩:=bI h
   refine rn 1 rfl (rd (rIx hv2) ?_)
   refine rn 2 rfl ?_
   obtain ⟨v3,hv3,h⟩:=bI h
   refine aP Tryz.call149 (H2 hv3) rfl ?_
   refine rn 6 rfl (aC.done [0,8,9] [8] rfl (aB (b8 8 (by kernel_rfl) ?_)))
   refine cfq rfl rfl (fun _ _ _=>rfl) ?_
   refine cfq rfl rfl (fun _ _ _=>rfl) ?_
   refine cfq rfl rfl (fun _ _ _=>rfl) ?_
   refine cfq rfl rfl (fun _ _ _=>rfl) ?_
   refine cfo (wr:=[(36,[],.list true 102 (a0.thresholds.map aL))]) (O1:=[(i0,[zI a0.capacity.a,zI a0.capacity.b,zI a0.capacity.c,zI a0.allocatable.a,zI a0.allocatable.b,zI a0.allocatable.c,.list false 102 (a0.thresholds.map aL),zI a0.period,zI a0.retries,zI a0.maxAge,zI a0.dead]),(i1,aV keS zI a1)]) rfl [(35,[],_)] ⟨rfl,trivial⟩ (fun fr X hf=>?_) ?_
   ·exact rh 1 [0] [36] rfl ⟨rfl,trivial⟩ (aW rfl)
   refine cfp rfl [] [(8,_)] rfl ⟨rfl,trivial⟩ (fun _ _ _=>rfl) trivial ?_
   refine cfb (d:=38) (v:= .list true 102 ([v3.1].map aL)) rfl rfl (fun _ _ _=>rfl) (fun _ _ _=>rfl) ?_
   obtain ⟨v4,hv4,h⟩:=bI h
   refine cf2 (d:=39) (s:=36) (v:= .list true 102 (v4.map aL)) (u:= .list false 102 (a0.thresholds.map aL)) rfl [(36,[],_),(38,[],_)] [] ⟨rfl,rfl,trivial⟩ trivial (fun fr X O hf=>?_) ?_
   ·refine iG (f:=aL) hv4 ?_
    exact aW rfl
   refine b6.nil ⟨by kernel_rfl,?_⟩
   refine rh 3 [0] [39] rfl ⟨rfl,trivial⟩ (aC.done [9] [] rfl (srd 2 rfl [6] [] rfl ?_))
   cases h;exact aJ ⟨.inl rfl,_,[0,0],_,_,rfl,rfl,rfl,rfl,rfl⟩
  refine aE (aB (aA (rn 1 rfl (bL [0] Tryz.call89 KF rfl rfl ?_))))
  rintro _ _ ⟨o5,t5,ht5,hlt5,rfl,rfl⟩
  refine rn 1 rfl (QD 0 ([]:List Nat) ht5 (lE Tryz.underlying9) Tryz.underlying185 XA (fun _ _=> .nil _ _) (fun _=>rfl) (fun _ _ _=>uF rfl) ?_)
  refine rn 5 rfl (aC.objs [1,1] rfl ?_)
  refine aC.done [1,2,7,10,11] [] rfl (aB (srd 2 rfl [1,2,7,10,51] [] rfl (aD h rfl (fun h=>?_) (fun h=>?_))))
  ·cases h
  refine aE (aB (aB (aA ?_)))
  obtain ⟨v6,hv6,h⟩:=bI h
  refine rn 2 rfl (rd (rPc hv6) ?_)
  obtain ⟨v7,hv7,h⟩:=bI h
  refine bR [0] Tryz.call150 (K3 hv7) rfl rfl ?_
  refine rn 1 rfl (aC.done [1,7,12] [] rfl (srd 2 rfl [1,7,12,57] [] rfl (aD h rfl (fun h=>?_) (fun h=>?_))))
  ·cases h
  refine aE (aB (aA (rn 2 rfl (UG 1 (0:Int) (lE Tryz.underlying9) Tryz.underlying179 mz3 (fun _ _=> .lit _) (fun _=>rfl) (fun _ _ _=>uF rfl) ?_))))
  refine rn 1 rfl (QI 1 (w64 (((cO v1.text a1).getD (0:Int))+1)) (lE Tryz.underlying9) Tryz.underlying179 (fun _=>rfl) (fun _ _ _=>uF rfl) ?_)
  refine aC.done [1,7] [] rfl (aB (aB (aA (rn 2 rfl (UG 1 (0:Int) (lE Tryz.underlying9) Tryz.underlying179 mz3 (fun _ _=> .lit _) (fun _=>rfl) (fun _ _ _=>uF rfl) ?_)))))
  refine rn 1 rfl (aC.done [66] [] rfl (aD h rfl (fun h=>?_) (fun h=>?_)))
  ·cases h
  refine aE (srd 1 rfl [6] [] rfl ?_)
  cases h;exact aJ ⟨.inl rfl,_,[0,0],_,_,rfl,rfl,rfl,rfl,rfl⟩
def kB (x2:Int):Option Int:=
  some x2
def gR (a0:List Int) (k290:Int→Option Int):Nat→Int→Int→Option Int
  |0,_,_=>none
  |m2+1,x3,x4=>
   bif decide (x4<(a0.length:Int)) then
     bO (idx a0 x4) fun v5=>
     (gR a0 k290 m2) (min x3 v5) (w64 (x4+1))
   else
     k290 x3
def nP (a0:List Int):Option Int:=
  bif decide ((a0.length:Int)<1) then none else
  bO (idx a0 0) fun v1=>
  gR a0 kB aT v1 1
theorem wT {a0:List Int} {r:Int} (h:nP a0=some r):aI Tryz.prog 151 [.list false 3 (a0.map zI)] (zI r):=by
  refine aK Tryz.func151 rfl rfl rfl rfl fun base=>?_
  unfold nP at h
  refine srd 1 rfl [0] [] rfl (aB (aB (aA (rh 3 [a0.length] [] rfl ⟨List.length_map ..,trivial⟩ (aC.done [0,7] [] rfl (aD h rfl (fun h=>?_) (fun h=>?_)))))))
  ·cases h
  refine aE (aB (aA ?_))
  obtain ⟨v1,hv1,h⟩:=bI h
  refine rn 1 rfl (rd (rIx hv1) ?_)
  refine rn 2 rfl (aC.done [0,3] [] rfl (aS (fun e=>∃x2,e=⟨[(3,[],zI x2)],[],[],[],base⟩∧kB x2=some r) ?_ ?_))
  ·refine srd 1 rfl [0,3,4] [] rfl (aF (aU (fun m2 e=>∃x3 x4,e=⟨[(0,[],.list false 3 (a0.map zI)),(3,[],zI x3),(4,[],zI x4)],[],[],[],base⟩∧gR a0 (kB) m2 x3 x4=some r) aT ⟨_,_,rfl,h⟩ ?_ ?_))
   ·rintro m2 _ ⟨x3,x4,rfl,h⟩
    rw [gR] at h
    refine aB (aB (aA (rh 4 [a0.length] [] rfl ⟨List.length_map ..,trivial⟩ (aC.done [0,3,4,15] [] rfl (aD h rfl (fun h=>?_) (fun h=>?_))))))
    ·refine aE (aB (aF ?_))
     refine aA ?_
     obtain ⟨v5,hv5,h⟩:=bI h
     refine rn 3 rfl (rd (rIx hv5) ?_)
     refine rn 3 rfl (aC.done [0,3,4] [] rfl ?_)
     refine aA (rn 3 rfl (aC.done [0,3,4] [] rfl ?_))
     exact ⟨_,_,rfl,h⟩
    refine aR [3] [] rfl (CWp.exit ?_)
    exact ⟨_,rfl,h⟩
   rintro _ ⟨_,_,_,h⟩
   rw [gR] at h;cases h
  rintro _ ⟨x2,rfl,h⟩
  unfold kB at h
  refine srd 2 rfl [2] [] rfl ?_
  cases h;exact aJ ⟨.inl rfl,rfl,rfl⟩
def d2 :Option Int:=
  some (-1)
def cW (a0:List SThreshold) (a1:SThreshold→Option Bool) (k290:Option Int):Nat→Int→Option Int
  |0,_=>none
  |m2+1,x1=>
   bif decide (x1<(a0.length:Int)) then
     bO (idx a0 x1) fun v2=>
     bO (a1 v2) fun v3=>
     bif v3 then none else
     (cW a0 a1 k290 m2) (w64 (x1+1))
   else
     k290
def g9 (a0:List SThreshold) (a1:SThreshold→Option Bool):Option Int:=
  cW a0 a1 d2 aT 0
theorem tV {a0:List SThreshold} {a1:SThreshold→Option Bool} {r:Int} {ins:Ob} {f1:Nat} {c1:List AV} (hp1:Fn1 Tryz.prog f1 c1 ins aL zB a1) (h:g9 a0 a1=some r):aO Tryz.prog 208 [.list false 102 (a0.map aL),.fn f1 c1] ins (fun v outs=>v=zI r∧outs=ins):=by
  refine cL Tryz.func208 rfl rfl rfl rfl fun base=>?_
  unfold g9 at h
  refine srd 1 rfl [0,1] [] rfl (aS (fun e=>e=⟨[],[],[],ins,base⟩∧d2=some r) ?_ ?_)
  ·refine aB (aA (rh 3 [a0.length] [] rfl ⟨List.length_map ..,trivial⟩ (aC.done [0,1,7,8] [] rfl (aF (aU (fun m2 e=>∃x1,e=⟨[(0,[],.list false 102 (a0.map aL)),(1,[],.fn f1 c1),(7,[],zI (a0.length:Int)),(8,[],zI x1)],[],[],ins,base⟩∧cW a0 a1 (d2) m2 x1=some r) aT ⟨_,rfl,h⟩ ?_ ?_)))))
   ·rintro m2 _ ⟨x1,rfl,h⟩
    rw [cW] at h
    refine srd 1 rfl [0,1,7,8,9] [] rfl (aB (aD h rfl (fun h=>?_) (fun h=>?_)))
    ·refine aE (aB (aF (srd 2 rfl [0,1,5,7,8] [] rfl (aB (aA ?_)))))
     obtain ⟨v2,hv2,h⟩:=bI h
     refine rn 3 rfl (rd (rIx hv2) ?_)
     refine rn 1 rfl ?_
     obtain ⟨v3,hv3,h⟩:=bI h
     refine n0 hp1.1 (hp1.2 _ _ hv3) ?_
     rintro _ _ ⟨rfl,rfl⟩
     refine aC.done [0,1,5,7,8,16] [] rfl (aD h rfl (fun h=>?_) (fun h=>?_))
     ·cases h
     refine aE ?_
     refine aA (rn 2 rfl (aC.done [0,1,7,8] [] rfl ?_))
     exact ⟨_,rfl,h⟩
    refine aR [] [] rfl (CWp.exit ?_)
    exact ⟨rfl,h⟩
   rintro _ ⟨_,_,h⟩
   rw [cW] at h;cases h
  rintro _ ⟨rfl,h⟩
  unfold d2 at h
  refine srd 1 rfl [4] [] rfl (aJ ?_)
  cases h
  exact ⟨.inl rfl,_,rfl,rfl,rfl,rfl⟩
def fT (a0:List SThreshold) (a1:SThreshold→Option Bool):Option Bool:=
  bO (g9 a0 a1) fun v1=>
  some (decide (v1≥0))
theorem rI {a0:List SThreshold} {a1:SThreshold→Option Bool} {r:Bool} {ins:Ob} {f1:Nat} {c1:List AV} (hp1:Fn1 Tryz.prog f1 c1 ins aL zB a1) (h:fT a0 a1=some r):aO Tryz.prog 152 [.list false 102 (a0.map aL),.fn f1 c1] ins (fun v outs=>v=zB r∧outs=ins):=by
  refine cL Tryz.func152 rfl rfl rfl rfl fun base=>?_
  unfold fT at h
  refine srd 1 rfl [0,1] [] rfl (aB (aA (rn 2 rfl ?_)))
  obtain ⟨v1,hv1,h⟩:=bI h
  refine wM Tryz.call208 (tV hp1 hv1) rfl ?_
  rintro _ _ ⟨rfl,rfl⟩
  refine rn 2 rfl (aC.done [4] [] rfl (aJ ?_))
  cases h
  exact ⟨.inl rfl,_,rfl,rfl,rfl,rfl⟩
def u7 (a0:SThreshold):Option Bool:=
  bO (qR a0) fun v1=>
  some (!v1)
theorem F5 {a0:SThreshold} {r:Bool} (h:u7 a0=some r):aI Tryz.prog 153 [aL a0] (zB r):=by
  refine aK Tryz.func153 rfl rfl rfl rfl fun base=>?_
  unfold u7 at h
  refine srd 2 rfl [1] [1] rfl (aB (aA (rn 1 rfl ?_)))
  obtain ⟨v1,hv1,h⟩:=bI h
  refine aP Tryz.call154 (zA hv1) rfl ?_
  refine rn 2 rfl (aC.done [2] [] rfl ?_)
  cases h;exact aJ ⟨.inl rfl,rfl,rfl⟩
def sU (a0:Int) (a1:Int) (a2:Int):Option Bool:=
  some ((decide (a0≥a1))&&(decide (a0≤a2)))
theorem wD {a0:Int} {a1:Int} {a2:Int} {r:Bool} (h:sU a0 a1 a2=some r):aI Tryz.prog 155 [zI a0,zI a1,zI a2] (zB r):=by
  refine aK Tryz.func155 rfl rfl rfl rfl fun base=>?_
  unfold sU at h
  refine srd 1 rfl [0,1,2] [] rfl (srd 9 rfl [6] [] rfl ?_)
  cases h;exact aJ ⟨.inl rfl,rfl,rfl⟩
def tF (a0:SConfig) (x2:Bool):Option Bool:=
  bif x2 then none else
  bO (sU a0.period 1 1000) fun v3=>
  bO (bif v3 then (sU a0.maxAge 1 1000) else some default) fun v4=>
  bO (bif (v3&&v4) then (sU a0.retries 0 20) else some default) fun v5=>
  bO (bif ((v3&&v4)&&v5) then (sU a0.dead 0 100) else some default) fun v6=>
  some (((v3&&v4)&&v5)&&v6)
def tE (a0:SConfig):Option Bool:=
  bif decide (a0.allocatable.c>a0.capacity.c) then none else
  bif decide ((a0.thresholds.length:Int)>12) then none else
  bO (fT a0.thresholds u7) fun v7=>
  tF a0 v7
def tD (a0:SConfig) (x1:Bool):Option Bool:=
  bif x1 then none else
  bif decide (a0.allocatable.b>a0.capacity.a) then none else
  tE a0
def yM (a0:SConfig):Option Bool:=
  bO (nP [a0.capacity.a,a0.capacity.b,a0.capacity.c]) fun v8=>
  bif decide (v8<1) then none else
  bO (nP [a0.allocatable.a,a0.allocatable.b,a0.allocatable.c]) fun v9=>
  tD a0 (decide (v9<0))
theorem IZ {a0:SConfig} {r:Bool} (h:yM a0=some r):aI Tryz.prog 90 [gW a0] (zB r):=by
  refine aK Tryz.func90 rfl rfl rfl rfl fun base=>?_
  unfold yM at h
  refine srd 2 rfl [1] [1] rfl (aB (aF (aS (fun e=>∃x1,e=⟨[(1,[],.eptr (.agg [zI a0.capacity.a,zI a0.capacity.b,zI a0.capacity.c,zI a0.allocatable.a,zI a0.allocatable.b,zI a0.allocatable.c,.list false 102 (a0.thresholds.map aL),zI a0.period,zI a0.retries,zI a0.maxAge,zI a0.dead]) 0),(3,[],zB x1)],[],[],[],base⟩∧tD a0 x1=some r) ?_ ?_)))
  ·refine aB (aA (rn 1 rfl (U0 1 ?_)))
   refine rd (WL [a0.capacity.a,a0.capacity.b,a0.capacity.c] zI) ?_
   obtain ⟨v8,hv8,h⟩:=bI h
   refine aP Tryz.call151 (wT hv8) rfl ?_
   refine rn 2 rfl (aC.done [1,3] [] rfl (aD h rfl (fun h=>?_) (fun h=>?_)))
   ·cases h
   refine aA (rn 1 rfl (rd (WL [a0.allocatable.a,a0.allocatable.b,a0.allocatable.c] zI) ?_))
   obtain ⟨v9,hv9,h⟩:=bI h
   refine aP Tryz.call151 (wT hv9) rfl ?_
   refine rn 2 rfl (aC.done [1,3] [] rfl ?_)
   exact ⟨_,rfl,h⟩
  rintro _ ⟨x1,rfl,h⟩
  unfold tD at h
  refine aD h rfl (fun h=>?_) (fun h=>?_)
  ·cases h
  refine aS (fun e=>e=⟨[(1,[],.eptr (.agg [zI a0.capacity.a,zI a0.capacity.b,zI a0.capacity.c,zI a0.allocatable.a,zI a0.allocatable.b,zI a0.allocatable.c,.list false 102 (a0.thresholds.map aL),zI a0.period,zI a0.retries,zI a0.maxAge,zI a0.dead]) 0),(12,[],zB (decide (a0.allocatable.c>a0.capacity.c)))],[],[],[],base⟩∧tE a0=some r) ?_ ?_
  ·refine srd 8 rfl [1,12] [] rfl (aD h rfl (fun h=>?_) (fun h=>?_))
   ·cases h
   refine aA (rn 8 rfl (aC.done [1,12] [] rfl ?_))
   exact ⟨rfl,h⟩
  rintro _ ⟨rfl,h⟩
  unfold tE at h
  refine aD h rfl (fun h=>?_) (fun h=>?_)
  ·cases h
  refine aS (fun e=>∃x2,e=⟨[(1,[],.eptr (.agg [zI a0.capacity.a,zI a0.capacity.b,zI a0.capacity.c,zI a0.allocatable.a,zI a0.allocatable.b,zI a0.allocatable.c,.list false 102 (a0.thresholds.map aL),zI a0.period,zI a0.retries,zI a0.maxAge,zI a0.dead]) 0),(27,[],zB x2)],[],[],[],base⟩∧tF a0 x2=some r) ?_ ?_
  ·refine aB (aA (rh 5 [a0.thresholds.length] [] rfl ⟨List.length_map ..,trivial⟩ (aC.done [1,27] [] rfl (aD h rfl (fun h=>?_) (fun h=>?_)))))
   ·cases h
   refine aA (rn 2 rfl ?_)
   obtain ⟨v7,hv7,h⟩:=bI h
   refine bR [] Tryz.call152 (rI ⟨Tryz.call153,fun _ _ hb=>F5 hb⟩ hv7) rfl rfl ?_
   refine rn 1 rfl (aC.done [1,27] [] rfl ?_)
   exact ⟨_,rfl,h⟩
  rintro _ ⟨x2,rfl,h⟩
  unfold tF at h
  refine aD h rfl (fun h=>?_) (fun h=>?_)
  ·cases h
  refine aE (aB (aA (rn 2 rfl ?_)))
  obtain ⟨v3,hv3,h⟩:=bI h
  refine aP Tryz.call155 (wD hv3) rfl ?_
  refine rn 3 rfl ?_
  obtain ⟨v4,hv4,h⟩:=bI h
  refine gV 38 true [] Tryz.call155 (fun ht=>wD (gd hv4 (ht.1 _ rfl))) rfl ?_
  refine rn 4 rfl (iB [1,43,45] rfl ?_)
  obtain ⟨v5,hv5,h⟩:=bI h
  refine gV 43 true [] Tryz.call155 (fun ht=>wD (gd hv5 (ht.1 _ rfl))) rfl ?_
  refine rn 4 rfl (iB [48,50] rfl ?_)
  obtain ⟨v6,hv6,h⟩:=bI h
  refine gV 48 true [] Tryz.call155 (fun ht=>wD (gd hv6 (ht.1 _ rfl))) rfl ?_
  refine rn 2 rfl (aC.done [2] [] rfl ?_)
  cases h;exact aJ ⟨.inl rfl,rfl,rfl⟩
def pZ (x4:List ((List UInt8)×Int)) (x5:Int) (x6:Int) (x7:Int) (x8:Int) (x9:Int) (x10:Int) (x11:List SThreshold) (x12:Int) (x13:Int) (x14:Int) (x15:Int):Option (SConfig×Int×Int):=
  bif decide ((x4.length:Int)<(6:Int)) then none else
  bO (yM (⟨(⟨x5,x6,x7⟩:V3 Int),(⟨x8,x9,x10⟩:V3 Int),x11,x12,x13,x14,x15⟩:SConfig)) fun v17=>
  bif !v17 then none else
  some ((⟨(⟨x5,x6,x7⟩:V3 Int),(⟨x8,x9,x10⟩:V3 Int),x11,x12,x13,x14,x15⟩:SConfig),0,0)
def mA (v1:(List (List SField))×Int) (k290:(List ((List UInt8)×Int))→Int→Int→Int→Int→Int→Int→(List SThreshold)→Int→Int→Int→Int→Option (SConfig×Int×Int)):Nat→(List ((List UInt8)×Int))→Int→Int→Int→Int→Int→Int→Int→(List SThreshold)→Int→Int→Int→Int→Option (SConfig×Int×Int)
  |0,_,_,_,_,_,_,_,_,_,_,_,_,_=>none
  |m2+1,x18,x19,x20,x21,x22,x23,x24,x25,x26,x27,x28,x29,x30=>
   bif decide (x30<(v1.1.length:Int)) then
     bO (idx v1.1 x30) fun v31=>
     bO (AZ (⟨(⟨x19,x20,x22⟩:V3 Int),(⟨x23,x24,x25⟩:V3 Int),x26,x27,x28,x29,x21⟩:SConfig) x18 v31) fun v32=>
     bif v32.1 !=0 then none else
     (mA v1 k290 m2) v32.2.2 v32.2.1.capacity.a v32.2.1.capacity.b v32.2.1.dead v32.2.1.capacity.c v32.2.1.allocatable.a v32.2.1.allocatable.b v32.2.1.allocatable.c v32.2.1.thresholds v32.2.1.period v32.2.1.retries v32.2.1.maxAge (w64 (x30+1))
   else
     k290 x18 x19 x20 x22 x23 x24 x25 x26 x27 x28 x29 x21
def AX (a0:List UInt8):Option (SConfig×Int×Int):=
  bO (A3 a0) fun v1=>
  bif v1.2 !=0 then none else
  mA v1 pZ aT ([]:List ((List UInt8)×Int)) 0 0 0 0 0 0 0 ([]:List SThreshold) 0 0 0 0
theorem K2 {a0:List UInt8} {r:SConfig×Int×Int} (h:AX a0=some r):aI Tryz.prog 34 [.list false 5 (a0.map zU8)] (.tuple [gW r.1,zI r.2.1,zI r.2.2]):=by
  refine aK Tryz.func34 rfl rfl rfl rfl fun base=>?_
  unfold AX at h
  refine srd 3 rfl [0,2] [2] rfl (aB (aA (rn 1 rfl ?_)))
  obtain ⟨v1,hv1,h⟩:=bI h
  refine aP Tryz.call87 (K8 hv1) rfl ?_
  refine rh 5 [] [12,15,5] rfl trivial (aC.done [2,5,6] [2] rfl (aB (srd 2 rfl [2,5,6,18] [2] rfl (aD h rfl (fun h=>?_) (fun h=>?_)))))
  ·cases h
  refine aE (aB (aA (QH ?_)))
  rintro o2-
  refine IN 0 6 102 ?_
  refine aC.done [2,5,7] [2] rfl (aB (aA (V2 keS zI ?_)))
  rintro o3
  refine rn 1 rfl (aC.done [2,5,7,8] [2] rfl (aS (fun e=>∃x4 x5 x6 x7 x8 x9 x10 x11 x12 x13 x14 x15,e=⟨[(2,[],.lptr 2 0),(7,[],.gptr o2 0),(8,[],.gmap o3)],[],[(2,[zI 0,zI 0,zI 0,zI 0,zI 0,zI 0,.list false 102 (([]:List SThreshold).map aL),zI 0,zI 0,zI 0,zI 0])],[(o3,aV keS zI x4),(o2,[zI x5,zI x6,zI x7,zI x8,zI x9,zI x10,.list true 102 (x11.map aL),zI x12,zI x13,zI x14,zI x15])],base⟩∧pZ x4 x5 x6 x7 x8 x9 x10 x11 x12 x13 x14 x15=some r) ?_ ?_))
  ·refine aB (aA (rh 3 [v1.1.length] [] rfl ⟨List.length_map ..,trivial⟩ (aC.done [2,7,8,22,23,24] [2] rfl (aF (aU (fun m2 e=>∃x18 x19 x20 x21 x22 x23 x24 x25 x26 x27 x28 x29 x30,e=⟨[(2,[],.lptr 2 0),(7,[],.gptr o2 0),(8,[],.gmap o3),(22,[],.list false 180 (v1.1.map (fun (x:List SField)=> .list false 184 (x.map eC)))),(23,[],zI (v1.1.length:Int)),(24,[],zI x30)],[],[(2,[zI 0,zI 0,zI 0,zI 0,zI 0,zI 0,.list false 102 (([]:List SThreshold).map aL),zI 0,zI 0,zI 0,zI 0])],[(o3,aV keS zI x18),(o2,[zI x19,zI x20,zI x22,zI x23,zI x24,zI x25,.list true 102 (x26.map aL),zI x27,zI x28,zI x29,zI x21])],base⟩∧mA v1 (pZ) m2 x18 x19 x20 x21 x22 x23 x24 x25 x26 x27 x28 x29 x30=some r) aT ⟨_,_,_,_,_,_,_,_,_,_,_,_,_,rfl,h⟩ ?_ ?_)))))
   ·rintro m2 _ ⟨x18,x19,x20,x21,x22,x23,x24,x25,x26,x27,x28,x29,x30,rfl,h⟩
    rw [mA] at h
    refine srd 1 rfl [2,7,8,22,23,24,25] [2] rfl (aB (aD h rfl (fun h=>?_) (fun h=>?_)))
    ·refine aE (aB (aF (aB (aA ?_))))
     obtain ⟨v31,hv31,h⟩:=bI h
     refine rd (rIx hv31) ?_
     refine rn 2 rfl (aC.done [2,7,8,10,22,23,24] [2] rfl (aB (aA (rn 2 rfl ?_))))
     obtain ⟨v32,hv32,h⟩:=bI h
     refine bR [1,0] Tryz.call88 (K4 hv32) rfl rfl ?_
     refine rn 1 rfl (aC.objs [1,0] rfl ?_)
     refine aC.done [2,7,8,10,11,22,23,24] [2] rfl (srd 2 rfl [2,7,8,10,11,22,23,24,32] [2] rfl (aD h rfl (fun h=>?_) (fun h=>?_)))
     ·cases h
     refine aE ?_
     refine aA (rn 2 rfl (aC.done [2,7,8,22,23,24] [2] rfl ?_))
     exact ⟨_,_,_,_,_,_,_,_,_,_,_,_,_,rfl,h⟩
    refine aR [2,7,8] [2] rfl (CWp.exit ?_)
    exact ⟨_,_,_,_,_,_,_,_,_,_,_,_,rfl,h⟩
   rintro _ ⟨_,_,_,_,_,_,_,_,_,_,_,_,_,_,h⟩
   rw [mA] at h;cases h
  rintro _ ⟨x4,x5,x6,x7,x8,x9,x10,x11,x12,x13,x14,x15,rfl,h⟩
  unfold pZ at h
  refine aB (aF (aB (aA (rn 1 rfl (UH 0 x4.length Tryz.underlying179 rfl ?_)))))
  refine bL [1] Tryz.call89 KF rfl rfl ?_
  rintro _ _ ⟨o16,t16,ht16,hlt16,rfl,rfl⟩
  refine UH 0 6 Tryz.underlying185 hlt16 ?_
  refine rn 2 rfl (aC.objs [1] rfl ?_)
  refine aC.done [2,7,40] [2] rfl (aD h rfl (fun h=>?_) (fun h=>?_))
  ·cases h
  refine aB (aA (rh 1 [0] [] rfl ⟨rfl,trivial⟩ ?_))
  obtain ⟨v17,hv17,h⟩:=bI h
  refine aP Tryz.call90 (IZ hv17) rfl ?_
  refine rn 2 rfl (aC.done [2,7,47] [2] rfl (aD h rfl (fun h=>?_) (fun h=>?_)))
  ·cases h
  refine aE (aB (aA (rh 4 [0] [] rfl ⟨rfl,trivial⟩ (aC.objs [] rfl ?_))))
  refine aC.done [2,3,4] [2] rfl ?_
  cases h;exact aJ ⟨.inl rfl,rfl,rfl⟩
def d5 (a0:List UInt8):Option (List UInt8):=bM [] a0
theorem fN {a0:List UInt8} {r:List UInt8} (h:d5 a0=some r):aI Tryz.prog 45 [.list false 5 (a0.map zU8)] (.list true 5 (r.map zU8)):=by
  refine aK Tryz.func45 rfl rfl rfl rfl fun base=>?_
  unfold d5 at h
  refine srd 1 rfl [0] [] rfl (aB (aB (aA (rn 1 rfl (HN (fun b hb=>aC.done [0,4] [] rfl ?_))))))
  cases b with
  |true=>
   have ha:a0=[]:=by simpa using hb rfl
   subst ha
   cases h
   exact bD rfl (by decide) (srd 1 rfl [2] [] rfl (aJ ⟨.inl rfl,rfl,rfl⟩))
  |false=>
   refine dD rfl (by decide) (aE (aB (aA (HL ?_))))
   refine rn 1 rfl ?_
   refine iG (f:=zU8) (l:=[]) h ?_
   refine rh 1 [] [2] rfl trivial (aC.done [2] [] rfl ?_)
   exact aJ ⟨.inl rfl,rfl,rfl⟩
end
end Go.Proofs.YtoolgdcjfkjlnaaGreatDoor
