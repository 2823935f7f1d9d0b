/- GreatDoorM13. -/
import Derived.Test.YtoolgdcjfkjlnaaGreatDoorM9
import Derived.Test.YtoolgdcjfkjlnaaGreatDoorM10
import Derived.Test.YtoolgdcjfkjlnaaGreatDoorM11
import Derived.Test.YtoolgdcjfkjlnaaGreatDoorM12
set_option maxHeartbeats 2000000
namespace Go.Proofs.YtoolgdcjfkjlnaaGreatDoor
section
open Go.RowKit
def l4 :Option Unit:=
  some ()
def iR (v3:List (List UInt8)) (k290:Option Unit):Nat→Option Unit
  |0=>none
  |_m1+1=>
   bif decide (0<(v3.length:Int)) then none else
   k290
def oZ (a0:Sround) (a0_0:SAgent) (a0_0_0:SWorld) (a0_0_1:SStore) (a0_0_1_0:SDisk) (a0_0_1_0_0:List ((List UInt8)×(List UInt8))):Option Unit:=
  bO (lM a0 a0_0 a0_0_0 a0_0_1 a0_0_1_0 a0_0_1_0_0) fun v1=>
  bO (f9 a0_0_0) fun v2=>
  bO (y8 v2 v1.1) fun v3=>
  iR v3 l4 aT
theorem CI {a0:Sround} {a0_0:SAgent} {a0_0_0:SWorld} {a0_0_1:SStore} {a0_0_1_0:SDisk} {a0_0_1_0_0:List ((List UInt8)×(List UInt8))} {i0 i0_0 i0_0_0 i0_0_1 i0_0_1_0 i0_0_1_0_0:Nat} {i0m1:Nat} {pi0m1 si0m1:Slk 4} {i0_0_0m2:Nat} {pi0_0_0m2 si0_0_0m2:Slk 4} {r:Unit} (h:oZ a0 a0_0 a0_0_0 a0_0_1 a0_0_1_0 a0_0_1_0_0=some r):aO Tryz.prog 29 [.gptr i0 0] [(i0,[.gptr i0_0 0,hdM i0m1 pi0m1 a0.events si0m1,.list false 4 (a0.holds.map zB),zB a0.press.a,zB a0.press.b,zB a0.press.c]),(i0m1,lob pi0m1 bB a0.events si0m1),(i0_0,[zI a0_0.c.capacity.a,zI a0_0.c.capacity.b,zI a0_0.c.capacity.c,zI a0_0.c.allocatable.a,zI a0_0.c.allocatable.b,zI a0_0.c.allocatable.c,.list false 102 (a0_0.c.thresholds.map aL),zI a0_0.c.period,zI a0_0.c.retries,zI a0_0.c.maxAge,zI a0_0.c.dead,.gptr i0_0_0 0,.gptr i0_0_1 0,zI a0_0.state.round,.list false 83 (a0_0.state.pods.map aN),zB a0_0.state.on.a,zB a0_0.state.on.b,zB a0_0.state.on.c,.list false 3 (a0_0.since.map zI),zI a0_0.calm.a,zI a0_0.calm.b,zI a0_0.calm.c,zI a0_0.sample.time,zI a0_0.sample.avail.a,zI a0_0.sample.avail.b,zI a0_0.sample.avail.c,.list false 280 (a0_0.sample.use.map bC),zB a0_0.fresh,zI a0_0.fuse,zB a0_0.dead]),(i0_0_0,[.list false 4 (a0_0_0.queue.l.map zB),zI a0_0_0.retries,hdM i0_0_0m2 pi0_0_0m2 a0_0_0.boxes si0_0_0m2,.list false 150 (a0_0_0.images.map aQ)]),(i0_0_0m2,lob pi0_0_0m2 aG a0_0_0.boxes si0_0_0m2),(i0_0_1,[.gptr i0_0_1_0 0,zI a0_0_1.version]),(i0_0_1_0,[.gmap i0_0_1_0_0,.list true 69 (a0_0_1_0.open_.map bG)]),(i0_0_1_0_0,aV keS (fun (x:List UInt8)=> .list false 5 (x.map zU8)) a0_0_1_0_0)] (fun v outs=>v= .tuple []∧outs=[(i0,[.gptr i0_0 0,hdM i0m1 pi0m1 a0.events si0m1,.list false 4 (a0.holds.map zB),zB a0.press.a,zB a0.press.b,zB a0.press.c]),(i0m1,lob pi0m1 bB a0.events si0m1),(i0_0,[zI a0_0.c.capacity.a,zI a0_0.c.capacity.b,zI a0_0.c.capacity.c,zI a0_0.c.allocatable.a,zI a0_0.c.allocatable.b,zI a0_0.c.allocatable.c,.list false 102 (a0_0.c.thresholds.map aL),zI a0_0.c.period,zI a0_0.c.retries,zI a0_0.c.maxAge,zI a0_0.c.dead,.gptr i0_0_0 0,.gptr i0_0_1 0,zI a0_0.state.round,.list false 83 (a0_0.state.pods.map aN),zB a0_0.state.on.a,zB a0_0.state.on.b,zB a0_0.state.on.c,.list false 3 (a0_0.since.map zI),zI a0_0.calm.a,zI a0_0.calm.b,zI a0_0.calm.c,zI a0_0.sample.time,zI a0_0.sample.avail.a,zI a0_0.sample.avail.b,zI a0_0.sample.avail.c,.list false 280 (a0_0.sample.use.map bC),zB a0_0.fresh,zI a0_0.fuse,zB a0_0.dead]),(i0_0_0,[.list false 4 (a0_0_0.queue.l.map zB),zI a0_0_0.retries,hdM i0_0_0m2 pi0_0_0m2 a0_0_0.boxes si0_0_0m2,.list false 150 (a0_0_0.images.map aQ)]),(i0_0_0m2,lob pi0_0_0m2 aG a0_0_0.boxes si0_0_0m2),(i0_0_1,[.gptr i0_0_1_0 0,zI a0_0_1.version]),(i0_0_1_0,[.gmap i0_0_1_0_0,.list true 69 (a0_0_1_0.open_.map bG)]),(i0_0_1_0_0,aV keS (fun (x:List UInt8)=> .list false 5 (x.map zU8)) a0_0_1_0_0)]):=by
  refine a8 Tryz.func29 rfl rfl rfl rfl fun base=>?_
  unfold oZ at h
  refine aB (aA (rn 1 rfl ?_))
  obtain ⟨v1,hv1,h⟩:=bI h
  refine bR [0,0,0,0,0,0,0,0] Tryz.call55 (uO hv1) rfl rfl ?_
  refine rh 5 [] [8,11,12,2,3] rfl trivial (aC.done [0,2] [] rfl (aB (aA (rh 7 [0,2] [] rfl ⟨rfl,rfl,trivial⟩ ?_))))
  obtain ⟨v2,hv2,h⟩:=bI h
  refine bR [3,3] Tryz.call58 (n9 hv2) rfl rfl ?_
  refine rn 1 rfl ?_
  obtain ⟨v3,hv3,h⟩:=bI h
  refine aP Tryz.call76 (JG hv3) rfl ?_
  refine rh 2 [v3.length] [] rfl ⟨List.length_map ..,trivial⟩ (aC.objs [2,2,2,0,0,0,0,0] rfl ?_)
  refine aC.done [0,22,23,24] [] rfl (aF (aU (fun m1 e=>e=⟨[(0,[],.gptr i0 0),(22,[],.list true 9 (v3.map AV.str)),(23,[],zI (v3.length:Int)),(24,[],zI 0)],[],[],[(i0,[.gptr i0_0 0,hdM i0m1 pi0m1 a0.events si0m1,.list false 4 (a0.holds.map zB),zB a0.press.a,zB a0.press.b,zB a0.press.c]),(i0m1,lob pi0m1 bB a0.events si0m1),(i0_0,[zI a0_0.c.capacity.a,zI a0_0.c.capacity.b,zI a0_0.c.capacity.c,zI a0_0.c.allocatable.a,zI a0_0.c.allocatable.b,zI a0_0.c.allocatable.c,.list false 102 (a0_0.c.thresholds.map aL),zI a0_0.c.period,zI a0_0.c.retries,zI a0_0.c.maxAge,zI a0_0.c.dead,.gptr i0_0_0 0,.gptr i0_0_1 0,zI a0_0.state.round,.list false 83 (a0_0.state.pods.map aN),zB a0_0.state.on.a,zB a0_0.state.on.b,zB a0_0.state.on.c,.list false 3 (a0_0.since.map zI),zI a0_0.calm.a,zI a0_0.calm.b,zI a0_0.calm.c,zI a0_0.sample.time,zI a0_0.sample.avail.a,zI a0_0.sample.avail.b,zI a0_0.sample.avail.c,.list false 280 (a0_0.sample.use.map bC),zB a0_0.fresh,zI a0_0.fuse,zB a0_0.dead]),(i0_0_0,[.list false 4 (a0_0_0.queue.l.map zB),zI a0_0_0.retries,hdM i0_0_0m2 pi0_0_0m2 a0_0_0.boxes si0_0_0m2,.list false 150 (a0_0_0.images.map aQ)]),(i0_0_0m2,lob pi0_0_0m2 aG a0_0_0.boxes si0_0_0m2),(i0_0_1,[.gptr i0_0_1_0 0,zI a0_0_1.version]),(i0_0_1_0,[.gmap i0_0_1_0_0,.list true 69 (a0_0_1_0.open_.map bG)]),(i0_0_1_0_0,aV keS (fun (x:List UInt8)=> .list false 5 (x.map zU8)) a0_0_1_0_0)],base⟩∧iR v3 (l4) m1=some r) aT ⟨rfl,h⟩ ?_ ?_))
  ·rintro m1 _ ⟨rfl,h⟩
   rw [iR] at h
   refine srd 1 rfl [0,22,23,24,25] [] rfl (aB (aD h rfl (fun h=>?_) (fun h=>?_)))
   ·cases h
   refine CWp.exit ?_
   unfold l4 at h
   cases h
   exact ⟨.inr rfl,_,[0,0,0,0,0,0,0,0],_,_,rfl,rfl,rfl,rfl,rfl⟩
  rintro _ ⟨_,h⟩
  rw [iR] at h;cases h
def iQ (a0_1:SStore) (a0_1_0:SDisk) (a0_1_0_0:List ((List UInt8)×(List UInt8))) (x10:List Bool) (x11:Bool) (x12:Bool) (x13:Bool) (x14:List SEvent) (x16:Int) (x17:Int) (x18:Int) (x19:Int) (x20:Int) (x21:Int) (x22:List SThreshold) (x23:Int) (x24:Int) (x25:Int) (x26:Int) (x27:Int) (x28:List SEntry) (x29:Bool) (x30:Bool) (x31:Bool) (x32:List Int) (x33:Int) (x34:Int) (x35:Int) (x36:Int) (x37:Int) (x38:Int) (x39:Int) (x40:List SUse) (x41:Bool) (x42:Int) (x43:Bool) (x44:List Bool) (x45:Int) (x46:List SImage) (x47:List SContainer):Option ((List SEvent)×Int×(List ((List UInt8)×(List UInt8)))×SAgent×SWorld×SStore×SDisk):=
  bO (oZ (⟨x14,x10,(⟨x11,x12,x13⟩:V3 Bool)⟩:Sround) (⟨(⟨(⟨x16,x17,x18⟩:V3 Int),(⟨x19,x20,x21⟩:V3 Int),x22,x23,x24,x25,x26⟩:SConfig),(⟨x27,x28,(⟨x29,x30,x31⟩:V3 Bool)⟩:SState),x32,(⟨x33,x34,x35⟩:V3 Int),(⟨x36,(⟨x37,x38,x39⟩:V3 Int),x40⟩:SSample),x41,x42,x43⟩:SAgent) (⟨(⟨x44⟩:Squeue),x45,x47,x46⟩:SWorld) a0_1 a0_1_0 a0_1_0_0) fun _v49=>
  bO (kI (⟨(⟨(⟨x16,x17,x18⟩:V3 Int),(⟨x19,x20,x21⟩:V3 Int),x22,x23,x24,x25,x26⟩:SConfig),(⟨x27,x28,(⟨x29,x30,x31⟩:V3 Bool)⟩:SState),x32,(⟨x33,x34,x35⟩:V3 Int),(⟨x36,(⟨x37,x38,x39⟩:V3 Int),x40⟩:SSample),false,x42,x43⟩:SAgent) (⟨(⟨x44⟩:Squeue),x45,x47,x46⟩:SWorld) a0_1 a0_1_0 a0_1_0_0 x14) fun v50=>
  some (v50.1,v50.2.1,v50.2.2.1,v50.2.2.2.1,(⟨(⟨x44⟩:Squeue),x45,x47,x46⟩:SWorld),v50.2.2.2.2.1,v50.2.2.2.2.2)
def fK (a0_1:SStore) (a0_1_0:SDisk) (a0_1_0_0:List ((List UInt8)×(List UInt8))) (v52:List SEntry) (k290:(List Bool)→Bool→Bool→Bool→(List SEvent)→Int→Int→Int→Int→Int→Int→(List SThreshold)→Int→Int→Int→Int→Int→(List SEntry)→Bool→Bool→Bool→(List Int)→Int→Int→Int→Int→Int→Int→Int→(List SUse)→Bool→Int→Bool→(List Bool)→Int→(List SImage)→(List SContainer)→Option ((List SEvent)×Int×(List ((List UInt8)×(List UInt8)))×SAgent×SWorld×SStore×SDisk)):Nat→(List SEvent)→(List SContainer)→(List Bool)→Bool→Bool→Bool→Int→Int→Int→Int→(List SEntry)→Bool→Bool→Bool→(List Int)→Int→Int→Int→Int→Int→Int→Int→Int→(List SUse)→Bool→Int→Bool→Int→Int→Int→(List SThreshold)→Int→Int→Int→(List Bool)→Int→(List SImage)→Int→Option ((List SEvent)×Int×(List ((List UInt8)×(List UInt8)))×SAgent×SWorld×SStore×SDisk)
  |0,_,_,_,_,_,_,_,_,_,_,_,_,_,_,_,_,_,_,_,_,_,_,_,_,_,_,_,_,_,_,_,_,_,_,_,_,_,_=>none
  |m2+1,x53,x55,x57,x58,x59,x60,x61,x62,x63,x64,x65,x66,x67,x68,x69,x70,x71,x72,x73,x74,x75,x76,x77,x78,x79,x80,x81,x82,x83,x84,x85,x86,x87,x88,x89,x90,x91,x92=>
   bif decide (x92<(v52.length:Int)) then
     bO (idx v52 x92) fun v93=>
     bO (qW (⟨x53,x57,(⟨x58,x59,x60⟩:V3 Bool)⟩:Sround) (⟨(⟨(⟨x61,x62,x71⟩:V3 Int),(⟨x82,x83,x84⟩:V3 Int),x85,x86,x87,x88,x63⟩:SConfig),(⟨x64,x65,(⟨x66,x67,x68⟩:V3 Bool)⟩:SState),x69,(⟨x70,x72,x73⟩:V3 Int),(⟨x74,(⟨x75,x76,x77⟩:V3 Int),x78⟩:SSample),x79,x80,x81⟩:SAgent) (⟨(⟨x89⟩:Squeue),x90,x55,x91⟩:SWorld) a0_1 a0_1_0 a0_1_0_0 v93) fun v94=>
     (fK a0_1 a0_1_0 a0_1_0_0 v52 k290 m2) v94.1.events v94.2.2.boxes v94.1.holds v94.1.press.a v94.1.press.b v94.1.press.c v94.2.1.c.capacity.a v94.2.1.c.capacity.b v94.2.1.c.dead v94.2.1.state.round v94.2.1.state.pods v94.2.1.state.on.a v94.2.1.state.on.b v94.2.1.state.on.c v94.2.1.since v94.2.1.calm.a v94.2.1.c.capacity.c v94.2.1.calm.b v94.2.1.calm.c v94.2.1.sample.time v94.2.1.sample.avail.a v94.2.1.sample.avail.b v94.2.1.sample.avail.c v94.2.1.sample.use v94.2.1.fresh v94.2.1.fuse v94.2.1.dead v94.2.1.c.allocatable.a v94.2.1.c.allocatable.b v94.2.1.c.allocatable.c v94.2.1.c.thresholds v94.2.1.c.period v94.2.1.c.retries v94.2.1.c.maxAge v94.2.2.queue.l v94.2.2.retries v94.2.2.images (w64 (x92+1))
   else
     k290 x57 x58 x59 x60 x53 x61 x62 x71 x82 x83 x84 x85 x86 x87 x88 x63 x64 x65 x66 x67 x68 x69 x70 x72 x73 x74 x75 x76 x77 x78 x79 x80 x81 x89 x90 x91 x55
def cR (a0:SAgent) (a0_0:SWorld) (a0_1:SStore) (a0_1_0:SDisk) (a0_1_0_0:List ((List UInt8)×(List UInt8))):Option ((List SEvent)×Int×(List ((List UInt8)×(List UInt8)))×SAgent×SWorld×SStore×SDisk):=
  bif a0.dead then
    some (([]:List SEvent),7,a0_1_0_0,a0,a0_0,a0_1,a0_1_0)
  else
    bif decide (a0.state.round≥1099511627776) then
      some (([]:List SEvent),6,a0_1_0_0,a0,a0_0,a0_1,a0_1_0)
    else
      bO (l5 (⟨([]:List SEvent),([]:List Bool),(⟨false,false,false⟩:V3 Bool)⟩:Sround) (⟨a0.c,(⟨w64 (a0.state.round+1),a0.state.pods,a0.state.on⟩:SState),a0.since,a0.calm,a0.sample,a0.fresh,a0.fuse,a0.dead⟩:SAgent) a0_0 a0_1 a0_1_0 a0_1_0_0) fun v3=>
      bO (jT v3.1 v3.2 a0_0 a0_1 a0_1_0 a0_1_0_0) fun v5=>
      bO (nE v3.1 v3.2 v5 a0_1 a0_1_0 a0_1_0_0) fun _v7=>
      bO (oD v3.1 v3.2 v5 a0_1 a0_1_0 a0_1_0_0) fun v8=>
      bO (cY v8.2.state.pods) fun v52=>
      fK a0_1 a0_1_0 a0_1_0_0 v52 (iQ a0_1 a0_1_0 a0_1_0_0) aT v8.1.events v5.boxes v8.1.holds v8.1.press.a v8.1.press.b v8.1.press.c v8.2.c.capacity.a v8.2.c.capacity.b v8.2.c.dead v8.2.state.round v8.2.state.pods v8.2.state.on.a v8.2.state.on.b v8.2.state.on.c v8.2.since v8.2.calm.a v8.2.c.capacity.c v8.2.calm.b v8.2.calm.c v8.2.sample.time v8.2.sample.avail.a v8.2.sample.avail.b v8.2.sample.avail.c v8.2.sample.use v8.2.fresh v8.2.fuse v8.2.dead v8.2.c.allocatable.a v8.2.c.allocatable.b v8.2.c.allocatable.c v8.2.c.thresholds v8.2.c.period v8.2.c.retries v8.2.c.maxAge v5.queue.l v5.retries v5.images 0
theorem cX {a0:SAgent} {a0_0:SWorld} {a0_1:SStore} {a0_1_0:SDisk} {a0_1_0_0:List ((List UInt8)×(List UInt8))} {i0 i0_0 i0_1 i0_1_0 i0_1_0_0:Nat} {i0_0m2:Nat} {pi0_0m2 si0_0m2:Slk 4} {r:(List SEvent)×Int×(List ((List UInt8)×(List UInt8)))×SAgent×SWorld×SStore×SDisk} (h:cR a0 a0_0 a0_1 a0_1_0 a0_1_0_0=some r):aO Tryz.prog 7 [.gptr i0 0] [(i0,[zI a0.c.capacity.a,zI a0.c.capacity.b,zI a0.c.capacity.c,zI a0.c.allocatable.a,zI a0.c.allocatable.b,zI a0.c.allocatable.c,.list false 102 (a0.c.thresholds.map aL),zI a0.c.period,zI a0.c.retries,zI a0.c.maxAge,zI a0.c.dead,.gptr i0_0 0,.gptr i0_1 0,zI a0.state.round,.list false 83 (a0.state.pods.map aN),zB a0.state.on.a,zB a0.state.on.b,zB a0.state.on.c,.list false 3 (a0.since.map zI),zI a0.calm.a,zI a0.calm.b,zI a0.calm.c,zI a0.sample.time,zI a0.sample.avail.a,zI a0.sample.avail.b,zI a0.sample.avail.c,.list false 280 (a0.sample.use.map bC),zB a0.fresh,zI a0.fuse,zB a0.dead]),(i0_0,[.list false 4 (a0_0.queue.l.map zB),zI a0_0.retries,hdM i0_0m2 pi0_0m2 a0_0.boxes si0_0m2,.list false 150 (a0_0.images.map aQ)]),(i0_0m2,lob pi0_0m2 aG a0_0.boxes si0_0m2),(i0_1,[.gptr i0_1_0 0,zI a0_1.version]),(i0_1_0,[.gmap i0_1_0_0,.list true 69 (a0_1_0.open_.map bG)]),(i0_1_0_0,aV keS (fun (x:List UInt8)=> .list false 5 (x.map zU8)) a0_1_0_0)] (fun v outs=>∃(h0_:Nat) (i0_0m2_:Nat) (pi0_0m2_ si0_0m2_:Slk 4),v= .tuple [.list false 45 (r.1.map bB),zI r.2.1]∧outs=[(h0_,aV keS (fun (x:List UInt8)=> .list false 5 (x.map zU8)) r.2.2.1),(i0,[zI r.2.2.2.1.c.capacity.a,zI r.2.2.2.1.c.capacity.b,zI r.2.2.2.1.c.capacity.c,zI r.2.2.2.1.c.allocatable.a,zI r.2.2.2.1.c.allocatable.b,zI r.2.2.2.1.c.allocatable.c,.list false 102 (r.2.2.2.1.c.thresholds.map aL),zI r.2.2.2.1.c.period,zI r.2.2.2.1.c.retries,zI r.2.2.2.1.c.maxAge,zI r.2.2.2.1.c.dead,.gptr i0_0 0,.gptr i0_1 0,zI r.2.2.2.1.state.round,.list false 83 (r.2.2.2.1.state.pods.map aN),zB r.2.2.2.1.state.on.a,zB r.2.2.2.1.state.on.b,zB r.2.2.2.1.state.on.c,.list false 3 (r.2.2.2.1.since.map zI),zI r.2.2.2.1.calm.a,zI r.2.2.2.1.calm.b,zI r.2.2.2.1.calm.c,zI r.2.2.2.1.sample.time,zI r.2.2.2.1.sample.avail.a,zI r.2.2.2.1.sample.avail.b,zI r.2.2.2.1.sample.avail.c,.list false 280 (r.2.2.2.1.sample.use.map bC),zB r.2.2.2.1.fresh,zI r.2.2.2.1.fuse,zB r.2.2.2.1.dead]),(i0_0,[.list false 4 (r.2.2.2.2.1.queue.l.map zB),zI r.2.2.2.2.1.retries,hdM i0_0m2_ pi0_0m2_ r.2.2.2.2.1.boxes si0_0m2_,.list false 150 (r.2.2.2.2.1.images.map aQ)]),(i0_0m2_,lob pi0_0m2_ aG r.2.2.2.2.1.boxes si0_0m2_),(i0_1,[.gptr i0_1_0 0,zI r.2.2.2.2.2.1.version]),(i0_1_0,[.gmap h0_,.list true 69 (r.2.2.2.2.2.2.open_.map bG)])]):=by
  refine a8 Tryz.func7 rfl rfl rfl rfl fun base=>?_
  unfold cR at h
  refine srd 2 rfl [0] [] rfl (aB (aF (aB (aA (rh 5 [0] [] rfl ⟨rfl,trivial⟩ (aC.done [0,7] [] rfl (aD h rfl (fun h=>?_) (fun h=>?_))))))))
  ·refine srd 2 rfl [2,3] [] rfl (ER 2 ?_)
   refine aJ ?_
   cases h
   exact ⟨.inl rfl,_,[5,0,0,0,0,0],_,_,rfl,rfl,rfl,i0_1_0_0,i0_0m2,pi0_0m2,si0_0m2,rfl,rfl⟩
  refine aB (aA (rh 7 [0] [] rfl ⟨rfl,trivial⟩ (aC.done [0,12] [] rfl (aD h rfl (fun h=>?_) (fun h=>?_)))))
  ·refine srd 2 rfl [2,3] [] rfl (ER 2 ?_)
   refine aJ ?_
   cases h
   exact ⟨.inl rfl,_,[5,0,0,0,0,0],_,_,rfl,rfl,rfl,i0_1_0_0,i0_0m2,pi0_0m2,si0_0m2,rfl,rfl⟩
  refine aE (aB (aA (rh 10 [0,0] [] rfl ⟨rfl,rfl,trivial⟩ (aC.done [0] [] rfl (aB (aA (rh 2 [] [29] rfl trivial (uV ?_))))))))
  rintro o1-
  refine S6 0 2 4 ?_
  refine L5 (sz:=4) bB 0 1 45 ?_
  rintro m2
  refine rn 1 rfl (aC.objs [1,0,0,0,0,0,0,0] rfl ?_)
  refine aC.done [0,4] [] rfl (aB (aA (rn 1 rfl ?_)))
  obtain ⟨v3,hv3,h⟩:=bI h
  refine bL [0,0,0,0,0,0,0,0] Tryz.call23 (zQ hv3) rfl rfl ?_
  rintro _ _ ⟨m4,pm4,sm4,rfl,rfl⟩
  refine aC.done [0,4] [] rfl (aB (aA (rn 1 rfl ?_)))
  obtain ⟨v5,hv5,h⟩:=bI h
  refine bL [0,0,0,0,0,0,0,0] Tryz.call24 (w8 hv5) rfl rfl ?_
  rintro _ _ ⟨m6,pm6,sm6,rfl,rfl⟩
  refine aC.done [0,4] [] rfl (aB (aA (rn 1 rfl ?_)))
  obtain ⟨v7,hv7,h⟩:=bI h
  refine bR [0,0,0,0,0,0,0,0] Tryz.call25 (AU hv7) rfl rfl ?_
  refine aC.done [0,4] [] rfl (aB (aA (rn 1 rfl ?_)))
  obtain ⟨v8,hv8,h⟩:=bI h
  refine bL [0,0,0,0,0,0,0,0] Tryz.call26 (BQ hv8) rfl rfl ?_
  rintro _ _ ⟨m9,pm9,sm9,rfl,rfl⟩
  refine aC.done [0,4] [] rfl (aS (fun e=>∃(x10:_) (x11:_) (x12:_) (x13:_) (m15:Nat) (pm15 sm15:Slk 4) (x14:_) (x16:_) (x17:_) (x18:_) (x19:_) (x20:_) (x21:_) (x22:_) (x23:_) (x24:_) (x25:_) (x26:_) (x27:_) (x28:_) (x29:_) (x30:_) (x31:_) (x32:_) (x33:_) (x34:_) (x35:_) (x36:_) (x37:_) (x38:_) (x39:_) (x40:_) (x41:_) (x42:_) (x43:_) (x44:_) (x45:_) (x46:_) (m48:Nat) (pm48 sm48:Slk 4) (x47:_),e=⟨[(0,[],.gptr i0 0),(4,[],.gptr o1 0)],[],[],[(o1,[.gptr i0 0,hdM m15 pm15 x14 sm15,.list false 4 (x10.map zB),zB x11,zB x12,zB x13]),(m15,lob pm15 bB x14 sm15),(i0,[zI x16,zI x17,zI x18,zI x19,zI x20,zI x21,.list false 102 (x22.map aL),zI x23,zI x24,zI x25,zI x26,.gptr i0_0 0,.gptr i0_1 0,zI x27,.list false 83 (x28.map aN),zB x29,zB x30,zB x31,.list false 3 (x32.map zI),zI x33,zI x34,zI x35,zI x36,zI x37,zI x38,zI x39,.list false 280 (x40.map bC),zB x41,zI x42,zB x43]),(i0_0,[.list false 4 (x44.map zB),zI x45,hdM m48 pm48 x47 sm48,.list false 150 (x46.map aQ)]),(m48,lob pm48 aG x47 sm48),(i0_1,[.gptr i0_1_0 0,zI a0_1.version]),(i0_1_0,[.gmap i0_1_0_0,.list true 69 (a0_1_0.open_.map bG)]),(i0_1_0_0,aV keS (fun (x:List UInt8)=> .list false 5 (x.map zU8)) a0_1_0_0)],base⟩∧iQ a0_1 a0_1_0 a0_1_0_0 x10 x11 x12 x13 x14 x16 x17 x18 x19 x20 x21 x22 x23 x24 x25 x26 x27 x28 x29 x30 x31 x32 x33 x34 x35 x36 x37 x38 x39 x40 x41 x42 x43 x44 x45 x46 x47=some r) ?_ ?_)
  ·refine aB (aA (rh 5 [2] [] rfl ⟨rfl,trivial⟩ ?_))
   obtain ⟨v52,hv52,h⟩:=bI h
   refine aP Tryz.call27 (rG hv52) rfl ?_
   refine rh 2 [v52.length] [] rfl ⟨List.length_map ..,trivial⟩ (aC.done [0,4,44,45,46] [] rfl (aF (aU (fun m2 e=>∃(m54:Nat) (pm54 sm54:Slk 4) (x53:_) (m56:Nat) (pm56 sm56:Slk 4) (x55:_) (x57:_) (x58:_) (x59:_) (x60:_) (x61:_) (x62:_) (x63:_) (x64:_) (x65:_) (x66:_) (x67:_) (x68:_) (x69:_) (x70:_) (x71:_) (x72:_) (x73:_) (x74:_) (x75:_) (x76:_) (x77:_) (x78:_) (x79:_) (x80:_) (x81:_) (x82:_) (x83:_) (x84:_) (x85:_) (x86:_) (x87:_) (x88:_) (x89:_) (x90:_) (x91:_) (x92:_),e=⟨[(0,[],.gptr i0 0),(4,[],.gptr o1 0),(44,[],.list true 83 (v52.map aN)),(45,[],zI (v52.length:Int)),(46,[],zI x92)],[],[],[(o1,[.gptr i0 0,hdM m54 pm54 x53 sm54,.list false 4 (x57.map zB),zB x58,zB x59,zB x60]),(m54,lob pm54 bB x53 sm54),(i0,[zI x61,zI x62,zI x71,zI x82,zI x83,zI x84,.list false 102 (x85.map aL),zI x86,zI x87,zI x88,zI x63,.gptr i0_0 0,.gptr i0_1 0,zI x64,.list false 83 (x65.map aN),zB x66,zB x67,zB x68,.list false 3 (x69.map zI),zI x70,zI x72,zI x73,zI x74,zI x75,zI x76,zI x77,.list false 280 (x78.map bC),zB x79,zI x80,zB x81]),(i0_0,[.list false 4 (x89.map zB),zI x90,hdM m56 pm56 x55 sm56,.list false 150 (x91.map aQ)]),(m56,lob pm56 aG x55 sm56),(i0_1,[.gptr i0_1_0 0,zI a0_1.version]),(i0_1_0,[.gmap i0_1_0_0,.list true 69 (a0_1_0.open_.map bG)]),(i0_1_0_0,aV keS (fun (x:List UInt8)=> .list false 5 (x.map zU8)) a0_1_0_0)],base⟩∧fK a0_1 a0_1_0 a0_1_0_0 v52 (iQ a0_1 a0_1_0 a0_1_0_0) m2 x53 x55 x57 x58 x59 x60 x61 x62 x63 x64 x65 x66 x67 x68 x69 x70 x71 x72 x73 x74 x75 x76 x77 x78 x79 x80 x81 x82 x83 x84 x85 x86 x87 x88 x89 x90 x91 x92=some r) aT ⟨_,_,_,_,_,_,_,_,_,_,_,_,_,_,_,_,_,_,_,_,_,_,_,_,_,_,_,_,_,_,_,_,_,_,_,_,_,_,_,_,_,_,_,_,rfl,h⟩ ?_ ?_)))
   ·rintro m2 _ ⟨m54,pm54,sm54,x53,m56,pm56,sm56,x55,x57,x58,x59,x60,x61,x62,x63,x64,x65,x66,x67,x68,x69,x70,x71,x72,x73,x74,x75,x76,x77,x78,x79,x80,x81,x82,x83,x84,x85,x86,x87,x88,x89,x90,x91,x92,rfl,h⟩
    rw [fK] at h
    refine srd 1 rfl [0,4,44,45,46,47] [] rfl (aB (aD h rfl (fun h=>?_) (fun h=>?_)))
    ·refine aE (aB (aF (aB (aA ?_))))
     obtain ⟨v93,hv93,h⟩:=bI h
     refine rd (rIx hv93) ?_
     refine rn 3 rfl (aC.done [0,4,6,44,45,46] [6] rfl ?_)
     refine aA (rn 2 rfl ?_)
     obtain ⟨v94,hv94,h⟩:=bI h
     refine bL [0,0,0,0,0,0,0,0] Tryz.call28 (DH hv94) rfl rfl ?_
     rintro _ _ ⟨m95,pm95,sm95,m96,pm96,sm96,rfl,rfl⟩
     refine aC.done [0,4,44,45,46] [] rfl ?_
     refine aA (rn 2 rfl (aC.done [0,4,44,45,46] [] rfl ?_))
     exact ⟨_,_,_,_,_,_,_,_,_,_,_,_,_,_,_,_,_,_,_,_,_,_,_,_,_,_,_,_,_,_,_,_,_,_,_,_,_,_,_,_,_,_,_,_,rfl,h⟩
    refine aR [0,4] [] rfl (CWp.exit ?_)
    exact ⟨_,_,_,_,_,_,_,_,_,_,_,_,_,_,_,_,_,_,_,_,_,_,_,_,_,_,_,_,_,_,_,_,_,_,_,_,_,_,_,_,_,_,_,rfl,h⟩
   rintro _ ⟨_,_,_,_,_,_,_,_,_,_,_,_,_,_,_,_,_,_,_,_,_,_,_,_,_,_,_,_,_,_,_,_,_,_,_,_,_,_,_,_,_,_,_,_,_,h⟩
   rw [fK] at h;cases h
  rintro _ ⟨x10,x11,x12,x13,m15,pm15,sm15,x14,x16,x17,x18,x19,x20,x21,x22,x23,x24,x25,x26,x27,x28,x29,x30,x31,x32,x33,x34,x35,x36,x37,x38,x39,x40,x41,x42,x43,x44,x45,x46,m48,pm48,sm48,x47,rfl,h⟩
  unfold iQ at h
  refine aB (aA (rn 1 rfl ?_))
  obtain ⟨v49,hv49,h⟩:=bI h
  refine bR [0,0,0,0,0,0,0,0] Tryz.call29 (CI hv49) rfl rfl ?_
  refine aC.done [0,4] [] rfl (aB (aA (rh 4 [2] [] rfl ⟨rfl,trivial⟩ (aC.done [0,4] [] rfl (aB (aA (rh 5 [0] [] rfl ⟨rfl,trivial⟩ (WZ (f:=bB) (E:=45) 1 [63] [] (fun _=>⟨rfl,rfl,rfl⟩) ?_))))))))
  obtain ⟨v50,hv50,h⟩:=bI h
  refine bL [1,1,1,1,1,1] Tryz.call30 (tA hv50) rfl rfl ?_
  rintro _ _ ⟨o51,rfl,rfl⟩
  refine rn 4 rfl (aC.objs [1,1,1,1,1,0] rfl ?_)
  refine aC.done [2,3] [] rfl (aJ ?_)
  cases h
  exact ⟨.inl rfl,_,[5,0,0,0,0,0],_,_,rfl,rfl,rfl,o51,m48,pm48,sm48,rfl,rfl⟩
def tN (a0:Nat) (a1:Int):Option Bool:=
  bif a1==0 then none else
  bif decide (a1<0) then
    some (fGt (Op.negFloat .f64 a0) 9218868437227405311)
  else
    some (fGt a0 9218868437227405311)
theorem BV {a0:Nat} {a1:Int} {r:Bool} (h:tN a0 a1=some r):aI Tryz.prog 327 [zF a0,zI a1] (zB r):=by
  refine aK Tryz.func327 rfl rfl rfl rfl fun base=>?_
  unfold tN at h
  refine srd 1 rfl [0,1] [] rfl (aB (srd 2 rfl [0,1,6] [] rfl (aD h rfl (fun h=>?_) (fun h=>?_))))
  ·cases h
  refine srd 2 rfl [0,10] [] rfl (aD h rfl (fun h=>?_) (fun h=>?_))
  ·refine aA (rn 3 rfl (aC.done [0] [] rfl (srd 3 rfl [4] [] rfl ?_)))
   cases h;exact aJ ⟨.inl rfl,rfl,rfl⟩
  refine aE (srd 3 rfl [4] [] rfl ?_)
  cases h;exact aJ ⟨.inl rfl,rfl,rfl⟩
def A0 (a0:Nat):Option Int:=
  bif fNe a0 a0 then none else
  bO (tN a0 (-1)) fun v1=>
  bif v1 then none else
  bO (tN a0 1) fun v2=>
  bif v2 then none else
  bif fLt a0 0 then none else
  bif fGt a0 0 then
    some 6
  else none
theorem K5 {a0:Nat} {r:Int} (h:A0 a0=some r):aI Tryz.prog 271 [zF a0] (zI r):=by
  refine aK Tryz.func271 rfl rfl rfl rfl fun base=>?_
  unfold A0 at h
  refine srd 1 rfl [0] [] rfl (aB (aF (srd 4 rfl [0,3] [] rfl (aD h rfl (fun h=>?_) (fun h=>?_)))))
  ·cases h
  refine aB (aA (rn 1 rfl ?_))
  obtain ⟨v1,hv1,h⟩:=bI h
  refine aP Tryz.call327 (BV hv1) rfl ?_
  refine rn 1 rfl (aC.done [0,7] [] rfl (aD h rfl (fun h=>?_) (fun h=>?_)))
  ·cases h
  refine aB (aA (rn 1 rfl ?_))
  obtain ⟨v2,hv2,h⟩:=bI h
  refine aP Tryz.call327 (BV hv2) rfl ?_
  refine rn 1 rfl (aC.done [0,10] [] rfl (aD h rfl (fun h=>?_) (fun h=>?_)))
  ·cases h
  refine srd 3 rfl [0,13] [] rfl (aD h rfl (fun h=>?_) (fun h=>?_))
  ·cases h
  refine srd 3 rfl [0,16] [] rfl (aD h rfl (fun h=>?_) (fun h=>?_))
  ·refine srd 1 rfl [2] [] rfl ?_
   cases h;exact aJ ⟨.inl rfl,rfl,rfl⟩
  cases h
def yV (a0:Nat):Option Nat:=
  bO (MG a0) fun v1=>
  some v1
theorem I6 {a0:Nat} {r:Nat} (h:yV a0=some r):aI Tryz.prog 272 [zF a0] (zF r):=by
  refine aK Tryz.func272 rfl rfl rfl rfl fun base=>?_
  unfold yV at h
  refine srd 1 rfl [0] [] rfl (aB (bD rfl (by decide) ?_))
  refine aB (aA (rn 1 rfl ?_))
  obtain ⟨v1,hv1,h⟩:=bI h
  refine rd (XO (TL hv1)) ?_
  refine rn 1 rfl (aC.done [2] [] rfl ?_)
  cases h;exact aJ ⟨.inl rfl,rfl,rfl⟩
def q9 (a0:Nat):Option (Int×Bool):=
  bO (A0 a0) fun v1=>
  bif v1==1 then none else
  bif decide (v1≤5) then none else
  bif fGe a0 4890909195324358656 then none else
  bO (yV a0) fun v2=>
  bO (f2i v2) fun v3=>
  some (v3,true)
theorem xA {a0:Nat} {r:Int×Bool} (h:q9 a0=some r):aI Tryz.prog 212 [zF a0] (.tuple [zI r.1,zB r.2]):=by
  refine aK Tryz.func212 rfl rfl rfl rfl fun base=>?_
  unfold q9 at h
  refine srd 2 rfl [0] [] rfl (aB (aB (aA (rn 1 rfl ?_))))
  obtain ⟨v1,hv1,h⟩:=bI h
  refine aP Tryz.call271 (K5 hv1) rfl ?_
  refine rn 1 rfl (aC.done [0,4] [] rfl (aF (srd 3 rfl [0,4,7] [] rfl (aD h rfl (fun h=>?_) (fun h=>?_)))))
  ·cases h
  refine srd 3 rfl [0,10] [] rfl (aD h rfl (fun h=>?_) (fun h=>?_))
  ·cases h
  refine srd 3 rfl [0,13] [] rfl (aD h rfl (fun h=>?_) (fun h=>?_))
  ·cases h
  refine aE (aB (aA (rn 1 rfl ?_)))
  obtain ⟨v2,hv2,h⟩:=bI h
  refine aP Tryz.call272 (I6 hv2) rfl ?_
  obtain ⟨v3,hv3,h⟩:=bI h
  refine rd (XP hv3) ?_
  refine rn 2 rfl (aC.done [2,3] [] rfl ?_)
  cases h;exact aJ ⟨.inl rfl,rfl,rfl⟩
def vK (a0:V3 Nat):Option ((V3 Int)×Bool):=
  bO (q9 a0.a) fun v1=>
  bif !v1.2 then none else
  bO (q9 a0.b) fun v2=>
  bif !v2.2 then none else
  bO (q9 a0.c) fun v3=>
  bif !v3.2 then none else
  some ((⟨v1.1,v2.1,v3.1⟩:V3 Int),true)
theorem GA {a0:V3 Nat} {r:(V3 Int)×Bool} (h:vK a0=some r):aI Tryz.prog 162 [V8 a0] (.tuple [wP r.1,zB r.2]):=by
  refine aK Tryz.func162 rfl rfl rfl rfl fun base=>?_
  unfold vK at h
  refine srd 3 rfl [1,2] [1,2] rfl (srd 1 rfl [1,2,4] [1,2,4] rfl (aB (srd 2 rfl [2,4,9,10] [2,4] rfl (aF (d7 4 (crd (srd 1 rfl [2,4,9,10,11] [2,4] rfl (aB (bD rfl (by decide) ?_)))))))))
  refine aE (aB (aF (srd 4 rfl [2,4,5,6,9,10] [2,4] rfl (aB (aA (rn 1 rfl ?_))))))
  obtain ⟨v1,hv1,h⟩:=bI h
  refine aP Tryz.call212 (xA hv1) rfl ?_
  refine rn 5 rfl (aC.done [2,4,5,7,8,9,10] [2,4] rfl (aB (srd 2 rfl [2,4,5,7,9,10,20] [2,4] rfl (aD h rfl (fun h=>?_) (fun h=>?_)))))
  ·cases h
  refine aE ?_
  refine aA (rn 4 rfl (aC.done [2,4,9,10] [2,4] rfl ?_))
  refine aA (rn 2 rfl (aC.done [2,4,9,10] [2,4] rfl (crd (srd 1 rfl [2,4,9,10,11] [2,4] rfl (aB (bD rfl (by decide) ?_))))))
  refine aE (aB (aF (srd 4 rfl [2,4,5,6,9,10] [2,4] rfl (aB (aA (rn 1 rfl ?_))))))
  obtain ⟨v2,hv2,h⟩:=bI h
  refine aP Tryz.call212 (xA hv2) rfl ?_
  refine rn 5 rfl (aC.done [2,4,5,7,8,9,10] [2,4] rfl (aB (srd 2 rfl [2,4,5,7,9,10,20] [2,4] rfl (aD h rfl (fun h=>?_) (fun h=>?_)))))
  ·cases h
  refine aE ?_
  refine aA (rn 4 rfl (aC.done [2,4,9,10] [2,4] rfl ?_))
  refine aA (rn 2 rfl (aC.done [2,4,9,10] [2,4] rfl (crd (srd 1 rfl [2,4,9,10,11] [2,4] rfl (aB (bD rfl (by decide) ?_))))))
  refine aE (aB (aF (srd 4 rfl [2,4,5,6,9,10] [2,4] rfl (aB (aA (rn 1 rfl ?_))))))
  obtain ⟨v3,hv3,h⟩:=bI h
  refine aP Tryz.call212 (xA hv3) rfl ?_
  refine rn 5 rfl (aC.done [2,4,5,7,8,9,10] [2,4] rfl (aB (srd 2 rfl [2,4,5,7,9,10,20] [2,4] rfl (aD h rfl (fun h=>?_) (fun h=>?_)))))
  ·cases h
  refine aE ?_
  refine aA (rn 4 rfl (aC.done [2,4,9,10] [2,4] rfl ?_))
  refine aA (rn 2 rfl (aC.done [2,4,9,10] [2,4] rfl (crd (srd 1 rfl [2,4,9,10,11] [2,4] rfl (aB (dD rfl (by decide) ?_))))))
  refine CWp.exit (srd 3 rfl [2,3] [2] rfl ?_)
  cases h;exact aJ ⟨.inl rfl,rfl,rfl⟩
def lP :Option Bool:=
  some true
def lQ (a0:List SUsage) (k290:Option Bool):Nat→Option Bool
  |0=>none
  |_m2+1=>
   bif decide (0<(a0.length:Int)) then none else
   k290
def vJ (a0:List SUsage):Option Bool:=
  lQ a0 lP aT
theorem F9 {a0:List SUsage} {r:Bool} (h:vJ a0=some r):aI Tryz.prog 163 [.list false 278 (a0.map BO)] (zB r):=by
  refine aK Tryz.func163 rfl rfl rfl rfl fun base=>?_
  unfold vJ at h
  refine srd 1 rfl [0] [] rfl (CWp.scope (srd 1 rfl [0,3] [] rfl (aB (CWp.label (aS (fun e=>e=⟨[(3,[],zB true)],[],[],[],base⟩∧lP=some r) ?_ ?_)))))
  ·refine aB (aA (rh 3 [a0.length] [] rfl ⟨List.length_map ..,trivial⟩ (aC.done [0,3,8,9,10] [] rfl (aF (aU (fun m2 e=>e=⟨[(0,[],.list false 278 (a0.map BO)),(3,[],zB true),(8,[],.list false 278 (a0.map BO)),(9,[],zI (a0.length:Int)),(10,[],zI 0)],[],[],[],base⟩∧lQ a0 (lP) m2=some r) aT ⟨rfl,h⟩ ?_ ?_)))))
   ·rintro m2 _ ⟨rfl,h⟩
    rw [lQ] at h
    refine srd 1 rfl [0,3,8,9,10,11] [] rfl (aB (aD h rfl (fun h=>?_) (fun h=>?_)))
    ·cases h
    refine aR [3] [] rfl (CWp.exit ?_)
    exact ⟨rfl,h⟩
   rintro _ ⟨_,h⟩
   rw [lQ] at h;cases h
  rintro _ ⟨rfl,h⟩
  unfold lP at h
  refine srd 2 rfl [2] [] rfl ?_
  cases h;exact aJ ⟨.inl rfl,rfl,rfl⟩
def eF :Option Unit:=
  some ()
def c6 (a1:Int) (a2:Int) (k290:Option Unit):Nat→Option Unit
  |0=>none
  |_m1+1=>
   bif decide ((w64 (a1+1))<a2) then none else
   k290
def fC (_a0:List SUse) (a1:Int) (a2:Int) (_a3:SUse→SUse→Option Int):Option Unit:=
  c6 a1 a2 eF aT
theorem qD {a0:List SUse} {a1:Int} {a2:Int} {a3:SUse→SUse→Option Int} {r:Unit} {ins:Ob} {f3:Nat} {c3:List AV} (_hp3:Fn2 Tryz.prog f3 c3 ins bC bC zI a3) (h:fC a0 a1 a2 a3=some r):aO Tryz.prog 273 [.list false 280 (a0.map bC),zI a1,zI a2,.fn f3 c3] ins (fun v outs=>v= .tuple []∧outs=ins):=by
  refine cL Tryz.func273 rfl rfl rfl rfl fun base=>?_
  unfold fC at h
  refine srd 3 rfl [0,1,2,3,8] [] rfl (aF (aU (fun m1 e=>e=⟨[(0,[],.list false 280 (a0.map bC)),(1,[],zI a1),(2,[],zI a2),(3,[],.fn f3 c3),(8,[],zI (w64 (a1+1)))],[],[],ins,base⟩∧c6 a1 a2 (eF) m1=some r) aT ⟨rfl,h⟩ ?_ ?_))
  ·rintro m1 _ ⟨rfl,h⟩
   rw [c6] at h
   refine aB (srd 3 rfl [0,1,2,3,8,14] [] rfl (aD h rfl (fun h=>?_) (fun h=>?_)))
   ·cases h
   refine CWp.exit ?_
   unfold eF at h
   cases h
   exact ⟨.inr rfl,_,rfl,rfl,rfl,rfl⟩
  rintro _ ⟨_,h⟩
  rw [c6] at h;cases h
def d9 (a0:List SUse) (a1:Int) (a2:Int) (a4:SUse→SUse→Option Int):Nat→Option Unit
  |0=>none
  |_m1+1=>
   bif decide ((w64 (a2-a1))≤12) then
     bO (fC a0 a1 a2 a4) fun _v1=>
     some ()
   else none
def iN (a0:List SUse) (a1:Int) (a2:Int) (_a3:Int) (a4:SUse→SUse→Option Int):Option Unit:=
  d9 a0 a1 a2 a4 aT
theorem uN {a0:List SUse} {a1:Int} {a2:Int} {a3:Int} {a4:SUse→SUse→Option Int} {r:Unit} {ins:Ob} {f4:Nat} {c4:List AV} (hp4:Fn2 Tryz.prog f4 c4 ins bC bC zI a4) (h:iN a0 a1 a2 a3 a4=some r):aO Tryz.prog 213 [.list false 280 (a0.map bC),zI a1,zI a2,zI a3,.fn f4 c4] ins (fun v outs=>v= .tuple []∧outs=ins):=by
  refine cL Tryz.func213 rfl rfl rfl rfl fun base=>?_
  unfold iN at h
  refine srd 1 rfl [0,1,2,3,4,10] [] rfl (srd 1 rfl [0,1,2,3,4,10,11] [] rfl (aF (aU (fun m1 e=>e=⟨[(0,[],.list false 280 (a0.map bC)),(1,[],zI a1),(2,[],zI a2),(3,[],zI a3),(4,[],.fn f4 c4),(10,[],zB true),(11,[],zB true)],[],[],ins,base⟩∧d9 a0 a1 a2 a4 m1=some r) aT ⟨rfl,h⟩ ?_ ?_)))
  ·rintro m1 _ ⟨rfl,h⟩
   rw [d9] at h
   refine aF (srd 4 rfl [0,1,2,3,4,10,11,12] [] rfl (aB (srd 2 rfl [0,1,2,3,4,10,11,12,25] [] rfl (aD h rfl (fun h=>?_) (fun h=>?_)))))
   ·refine aB (aA (rn 4 rfl ?_))
    obtain ⟨v1,hv1,h⟩:=bI h
    refine wM Tryz.call273 (qD hp4 hv1) rfl ?_
    rintro _ _ ⟨rfl,rfl⟩
    refine aC.done [] [] rfl (aJ ?_)
    cases h
    exact ⟨.inl rfl,_,rfl,rfl,rfl,rfl⟩
   cases h
  rintro _ ⟨_,h⟩
  rw [d9] at h;cases h
def mO (a0:List SUse) (a1:SUse→SUse→Option Int):Option Unit:=
  bO (JK (IntKind.u64.wrap (a0.length:Int))) fun v1=>
  bO (iN a0 0 (a0.length:Int) v1 a1) fun _v2=>
  some ()
theorem zZ {a0:List SUse} {a1:SUse→SUse→Option Int} {r:Unit} {ins:Ob} {f1:Nat} {c1:List AV} (hp1:Fn2 Tryz.prog f1 c1 ins bC bC zI a1) (h:mO a0 a1=some r):aO Tryz.prog 164 [.list false 280 (a0.map bC),.fn f1 c1] ins (fun v outs=>v= .tuple []∧outs=ins):=by
  refine cL Tryz.func164 rfl rfl rfl rfl fun base=>?_
  unfold mO at h
  refine aB (aA (rh 3 [a0.length] [] rfl ⟨List.length_map ..,trivial⟩ (aC.done [0,1,4] [] rfl ?_)))
  refine aA (rn 4 rfl ?_)
  obtain ⟨v1,hv1,h⟩:=bI h
  refine aP Tryz.call179 (EX hv1) rfl ?_
  refine rn 1 rfl ?_
  obtain ⟨v2,hv2,h⟩:=bI h
  refine wM Tryz.call213 (uN hp1 hv2) rfl ?_
  rintro _ _ ⟨rfl,rfl⟩
  refine aC.done [] [] rfl ?_
  cases h
  exact ⟨.inr rfl,_,rfl,rfl,rfl,rfl⟩
def tT (a0:SUse) (a1:SUse):Option Int:=
  bO (CF a0.id a1.id) fun v1=>
  some v1
theorem E7 {a0:SUse} {a1:SUse} {r:Int} (h:tT a0 a1=some r):aI Tryz.prog 165 [bC a0,bC a1] (zI r):=by
  refine aK Tryz.func165 rfl rfl rfl rfl fun base=>?_
  unfold tT at h
  refine srd 3 rfl [2,3] [2,3] rfl (aB (aA (rn 4 rfl ?_)))
  obtain ⟨v1,hv1,h⟩:=bI h
  refine aP Tryz.call143 (wN hv1) rfl ?_
  refine rn 1 rfl (aC.done [4] [] rfl ?_)
  cases h;exact aJ ⟨.inl rfl,rfl,rfl⟩
end
section
open Go.RowKit
def nL (a0:SRaw) (v1:(V3 Int)×Bool):Option (SSample×Int):=
  bO (mO ([]:List SUse) tT) fun _v4=>
  some ((⟨a0.time,v1.1,([]:List SUse)⟩:SSample),0)
def nM (a0:SRaw) (k290:Option (SSample×Int)):Nat→Option (SSample×Int)
  |0=>none
  |_m2+1=>
   bif decide (0<(a0.use.length:Int)) then none else
   k290
def xJ (a0:SRaw):Option (SSample×Int):=
  bO (vK a0.avail) fun v1=>
  bO (bif ((!v1.2)||(decide ((a0.use.length:Int)>128))) then some default else (vJ a0.use)) fun v2=>
  bif ((!v1.2)||(decide ((a0.use.length:Int)>128)))||(!v2) then none else
  nM a0 (nL a0 v1) aT
theorem HW {a0:SRaw} {r:SSample×Int} (h:xJ a0=some r):aI Tryz.prog 98 [QM a0] (.tuple [r8 r.1,zI r.2]):=by
  refine aK Tryz.func98 rfl rfl rfl rfl fun base=>?_
  unfold xJ at h
  refine srd 3 rfl [1,2] [1,2] rfl (aB (aA (rn 2 rfl ?_)))
  obtain ⟨v1,hv1,h⟩:=bI h
  refine aP Tryz.call162 (GA hv1) rfl ?_
  refine rn 6 rfl (aC.done [1,2,4,5] [1,2,4] rfl (aB (aB (aA (rh 11 [a0.use.length] [] rfl ⟨List.length_map ..,trivial⟩ (iB [1,2,4,25,27] rfl ?_))))))
  obtain ⟨v2,hv2,h⟩:=bI h
  refine gV 25 false [] Tryz.call163 (fun ht=>F9 (gdf hv2 (ht.1 _ rfl))) rfl ?_
  refine rn 2 rfl (aC.done [1,2,4,30] [1,2,4] rfl (aD h rfl (fun h=>?_) (fun h=>?_)))
  ·cases h
  refine aE (aB (aA (rh 4 [] [35] rfl trivial (QH ?_))))
  rintro o3-
  refine IN 0 4 280 ?_
  refine rh 1 [0] [] rfl ⟨rfl,trivial⟩ (IN 0 4 280 ?_)
  refine aC.done [1,2,6] [1,2] rfl (aS (fun e=>e=⟨[(2,[],.lptr 2 0),(6,[],.gptr o3 0)],[],[(2,[zI 0,zI 0,zI 0,zI 0,.list false 280 (([]:List SUse).map bC)])],[(o3,[zI a0.time,zI v1.1.a,zI v1.1.b,zI v1.1.c,.list true 280 (([]:List SUse).map bC)])],base⟩∧nL a0 v1=some r) ?_ ?_)
  ·refine aB (aA (rh 4 [a0.use.length] [] rfl ⟨List.length_map ..,trivial⟩ (aC.done [2,6,37,38,39] [2] rfl (aF (aU (fun m2 e=>e=⟨[(2,[],.lptr 2 0),(6,[],.gptr o3 0),(37,[],.list false 278 (a0.use.map BO)),(38,[],zI (a0.use.length:Int)),(39,[],zI 0)],[],[(2,[zI 0,zI 0,zI 0,zI 0,.list false 280 (([]:List SUse).map bC)])],[(o3,[zI a0.time,zI v1.1.a,zI v1.1.b,zI v1.1.c,.list true 280 (([]:List SUse).map bC)])],base⟩∧nM a0 (nL a0 v1) m2=some r) aT ⟨rfl,h⟩ ?_ ?_)))))
   ·rintro m2 _ ⟨rfl,h⟩
    rw [nM] at h
    refine srd 1 rfl [2,6,37,38,39,40] [2] rfl (aB (aD h rfl (fun h=>?_) (fun h=>?_)))
    ·cases h
    refine aR [2,6] [2] rfl (CWp.exit ?_)
    exact ⟨rfl,h⟩
   rintro _ ⟨_,h⟩
   rw [nM] at h;cases h
  rintro _ ⟨rfl,h⟩
  unfold nL at h
  refine aB (aA (rh 2 [0] [] rfl ⟨rfl,trivial⟩ ?_))
  obtain ⟨v4,hv4,h⟩:=bI h
  refine bR [] Tryz.call164 (zZ ⟨Tryz.call165,fun _ _ _ hb=>E7 hb⟩ hv4) rfl rfl ?_
  refine aC.done [2,6] [2] rfl (aB (aA (rh 3 [0] [] rfl ⟨rfl,trivial⟩ (aC.objs [] rfl ?_))))
  refine aC.done [2,3] [2] rfl ?_
  cases h;exact aJ ⟨.inl rfl,rfl,rfl⟩
def xK (a0:SRaw) (a1:Int) (a2:Int) (a3:Int):Option (SSample×Int):=
  bO (xJ a0) fun v1=>
  bif (v1.2==0)&&(((decide (v1.1.time≤a1))||(decide (v1.1.time>a2)))||(decide ((w64 (a2-v1.1.time))≥a3))) then none else
  some (v1.1,v1.2)
theorem HX {a0:SRaw} {a1:Int} {a2:Int} {a3:Int} {r:SSample×Int} (h:xK a0 a1 a2 a3=some r):aI Tryz.prog 39 [QM a0,zI a1,zI a2,zI a3] (.tuple [r8 r.1,zI r.2]):=by
  refine aK Tryz.func39 rfl rfl rfl rfl fun base=>?_
  unfold xK at h
  refine srd 3 rfl [1,2,3,4,8] [4,8] rfl (aB (aA (rn 1 rfl ?_)))
  obtain ⟨v1,hv1,h⟩:=bI h
  refine aP Tryz.call98 (HW hv1) rfl ?_
  refine rn 6 rfl (aC.done [1,2,3,8,10,11] [8,10] rfl (aB (srd 22 rfl [8,10,11,38] [8,10] rfl (aD h rfl (fun h=>?_) (fun h=>?_)))))
  ·cases h
  refine aE (srd 4 rfl [8,9] [8] rfl ?_)
  cases h;exact aJ ⟨.inl rfl,rfl,rfl⟩
def nC (a0:SAgent) (_a0_0:SWorld) (_a0_1:SStore) (_a0_1_0:SDisk) (_a0_1_0_0:List ((List UInt8)×(List UInt8))) (a1:SRaw):Option (Int×SAgent):=
  bif a0.dead then none else
  bO (xK a1 a0.sample.time a0.state.round a0.c.maxAge) fun v1=>
  bif v1.2 !=0 then none else
  some (0,(⟨a0.c,a0.state,a0.since,a0.calm,v1.1,true,a0.fuse,a0.dead⟩:SAgent))
theorem AS {a0:SAgent} {a0_0:SWorld} {a0_1:SStore} {a0_1_0:SDisk} {a0_1_0_0:List ((List UInt8)×(List UInt8))} {a1:SRaw} {i0 i0_0 i0_1 i0_1_0 i0_1_0_0:Nat} {i0_0m2:Nat} {pi0_0m2 si0_0m2:Slk 4} {r:Int×SAgent} (h:nC a0 a0_0 a0_1 a0_1_0 a0_1_0_0 a1=some r):aO Tryz.prog 14 [.gptr i0 0,QM a1] [(i0,[zI a0.c.capacity.a,zI a0.c.capacity.b,zI a0.c.capacity.c,zI a0.c.allocatable.a,zI a0.c.allocatable.b,zI a0.c.allocatable.c,.list false 102 (a0.c.thresholds.map aL),zI a0.c.period,zI a0.c.retries,zI a0.c.maxAge,zI a0.c.dead,.gptr i0_0 0,.gptr i0_1 0,zI a0.state.round,.list false 83 (a0.state.pods.map aN),zB a0.state.on.a,zB a0.state.on.b,zB a0.state.on.c,.list false 3 (a0.since.map zI),zI a0.calm.a,zI a0.calm.b,zI a0.calm.c,zI a0.sample.time,zI a0.sample.avail.a,zI a0.sample.avail.b,zI a0.sample.avail.c,.list false 280 (a0.sample.use.map bC),zB a0.fresh,zI a0.fuse,zB a0.dead]),(i0_0,[.list false 4 (a0_0.queue.l.map zB),zI a0_0.retries,hdM i0_0m2 pi0_0m2 a0_0.boxes si0_0m2,.list false 150 (a0_0.images.map aQ)]),(i0_0m2,lob pi0_0m2 aG a0_0.boxes si0_0m2),(i0_1,[.gptr i0_1_0 0,zI a0_1.version]),(i0_1_0,[.gmap i0_1_0_0,.list true 69 (a0_1_0.open_.map bG)]),(i0_1_0_0,aV keS (fun (x:List UInt8)=> .list false 5 (x.map zU8)) a0_1_0_0)] (fun v outs=>v=zI r.1∧outs=[(i0,[zI r.2.c.capacity.a,zI r.2.c.capacity.b,zI r.2.c.capacity.c,zI r.2.c.allocatable.a,zI r.2.c.allocatable.b,zI r.2.c.allocatable.c,.list false 102 (r.2.c.thresholds.map aL),zI r.2.c.period,zI r.2.c.retries,zI r.2.c.maxAge,zI r.2.c.dead,.gptr i0_0 0,.gptr i0_1 0,zI r.2.state.round,.list false 83 (r.2.state.pods.map aN),zB r.2.state.on.a,zB r.2.state.on.b,zB r.2.state.on.c,.list false 3 (r.2.since.map zI),zI r.2.calm.a,zI r.2.calm.b,zI r.2.calm.c,zI r.2.sample.time,zI r.2.sample.avail.a,zI r.2.sample.avail.b,zI r.2.sample.avail.c,.list false 280 (r.2.sample.use.map bC),zB r.2.fresh,zI r.2.fuse,zB r.2.dead]),(i0_0,[.list false 4 (a0_0.queue.l.map zB),zI a0_0.retries,hdM i0_0m2 pi0_0m2 a0_0.boxes si0_0m2,.list false 150 (a0_0.images.map aQ)]),(i0_0m2,lob pi0_0m2 aG a0_0.boxes si0_0m2),(i0_1,[.gptr i0_1_0 0,zI a0_1.version]),(i0_1_0,[.gmap i0_1_0_0,.list true 69 (a0_1_0.open_.map bG)]),(i0_1_0_0,aV keS (fun (x:List UInt8)=> .list false 5 (x.map zU8)) a0_1_0_0)]):=by
  refine a8 Tryz.func14 rfl rfl rfl rfl fun base=>?_
  unfold nC at h
  refine srd 2 rfl [0,3] [3] rfl (aB (aB (aA (rh 4 [0] [] rfl ⟨rfl,trivial⟩ (aC.done [0,3,10] [3] rfl (aD h rfl (fun h=>?_) (fun h=>?_)))))))
  ·cases h
  refine aE (aB (b8 22 (by kernel_rfl) ?_))
  refine cfp rfl [] [(3,_)] rfl ⟨rfl,trivial⟩ (fun _ _ _=>rfl) trivial ?_
  refine cfq rfl rfl (fun _ _ _=>rfl) ?_
  refine cfq rfl rfl (fun _ _ _=>rfl) ?_
  refine cfq rfl rfl (fun _ _ _=>rfl) ?_
  refine cfq rfl rfl (fun _ _ _=>rfl) ?_
  refine b9 rfl [0] rfl (fun _ _=>rfl) ⟨rfl,trivial⟩ ?_
  refine cfq rfl rfl (fun _ _ _=>rfl) ?_
  refine cfq rfl rfl (fun _ _ _=>rfl) ?_
  refine cfq rfl rfl (fun _ _ _=>rfl) ?_
  refine cfq rfl rfl (fun _ _ _=>rfl) ?_
  refine b9 rfl [0] rfl (fun _ _=>rfl) ⟨rfl,trivial⟩ ?_
  refine cfq rfl rfl (fun _ _ _=>rfl) ?_
  refine cfq rfl rfl (fun _ _ _=>rfl) ?_
  refine cfq rfl rfl (fun _ _ _=>rfl) ?_
  refine cfq rfl rfl (fun _ _ _=>rfl) ?_
  refine b9 rfl [0] rfl (fun _ _=>rfl) ⟨rfl,trivial⟩ ?_
  obtain ⟨v1,hv1,h⟩:=bI h
  refine cf1 (d:=28) (v:= .tuple [r8 v1.1,zI v1.2]) rfl [(12,[],_),(17,[],_),(22,[],_),(27,[],_)] [] ⟨rfl,rfl,rfl,rfl,trivial⟩ trivial (fun fr X O hf=>?_) ?_
  ·refine aP (hsub:=sbF rfl hf) Tryz.call39 (HX hv1) rfl ?_
   exact aW rfl
  refine cfq rfl rfl (fun _ _ _=>rfl) ?_
  refine cfq rfl rfl (fun _ _ _=>rfl) ?_
  refine cfq rfl rfl (fun _ _ _=>rfl) ?_
  refine cfa rfl (fun _ _ _=>rfl) rfl rfl ?_
  refine cfs (wr:=[]) (k0:=5) (cs':=[zI v1.1.time,zI v1.1.avail.a,zI v1.1.avail.b,zI v1.1.avail.c,.list false 280 (v1.1.use.map bC)]) rfl [(5,[],_),(29,[],_)] ⟨rfl,rfl,trivial⟩ rfl (fun fr X O hf=>?_) ?_
  ·exact rn 1 rfl (aW rfl)
  refine b6.nil ⟨by kernel_rfl,?_⟩
  refine rn 1 rfl (aC.done [0,5,6] [5] rfl (aB (srd 2 rfl [0,5,6,32] [5] rfl (aD h rfl (fun h=>?_) (fun h=>?_)))))
  ·cases h
  refine aE (aB (aA (rh 9 [0,0] [] rfl ⟨rfl,rfl,trivial⟩ (aC.done [] [] rfl (srd 1 rfl [4] [] rfl ?_)))))
  cases h;exact aJ ⟨.inl rfl,_,[0,0,0,0,0,0],_,_,rfl,rfl,rfl,rfl,rfl⟩
def nB (a0:SAgent) (_a0_0:SWorld) (_a0_1:SStore) (_a0_1_0:SDisk) (_a0_1_0_0:List ((List UInt8)×(List UInt8))) (a1:List UInt8):Option ((List SEvent)×Int):=
  bif a0.dead then none else
  bO (mP a0.state a1) fun v1=>
  bif !v1.2 then
    some (([]:List SEvent),4)
  else none
theorem AR {a0:SAgent} {a0_0:SWorld} {a0_1:SStore} {a0_1_0:SDisk} {a0_1_0_0:List ((List UInt8)×(List UInt8))} {a1:List UInt8} {i0 i0_0 i0_1 i0_1_0 i0_1_0_0:Nat} {i0_0m2:Nat} {pi0_0m2 si0_0m2:Slk 4} {r:(List SEvent)×Int} (h:nB a0 a0_0 a0_1 a0_1_0 a0_1_0_0 a1=some r):aO Tryz.prog 15 [.gptr i0 0,.str a1] [(i0,[zI a0.c.capacity.a,zI a0.c.capacity.b,zI a0.c.capacity.c,zI a0.c.allocatable.a,zI a0.c.allocatable.b,zI a0.c.allocatable.c,.list false 102 (a0.c.thresholds.map aL),zI a0.c.period,zI a0.c.retries,zI a0.c.maxAge,zI a0.c.dead,.gptr i0_0 0,.gptr i0_1 0,zI a0.state.round,.list false 83 (a0.state.pods.map aN),zB a0.state.on.a,zB a0.state.on.b,zB a0.state.on.c,.list false 3 (a0.since.map zI),zI a0.calm.a,zI a0.calm.b,zI a0.calm.c,zI a0.sample.time,zI a0.sample.avail.a,zI a0.sample.avail.b,zI a0.sample.avail.c,.list false 280 (a0.sample.use.map bC),zB a0.fresh,zI a0.fuse,zB a0.dead]),(i0_0,[.list false 4 (a0_0.queue.l.map zB),zI a0_0.retries,hdM i0_0m2 pi0_0m2 a0_0.boxes si0_0m2,.list false 150 (a0_0.images.map aQ)]),(i0_0m2,lob pi0_0m2 aG a0_0.boxes si0_0m2),(i0_1,[.gptr i0_1_0 0,zI a0_1.version]),(i0_1_0,[.gmap i0_1_0_0,.list true 69 (a0_1_0.open_.map bG)]),(i0_1_0_0,aV keS (fun (x:List UInt8)=> .list false 5 (x.map zU8)) a0_1_0_0)] (fun v outs=>v= .tuple [.list true 45 (r.1.map bB),zI r.2]∧outs=[(i0,[zI a0.c.capacity.a,zI a0.c.capacity.b,zI a0.c.capacity.c,zI a0.c.allocatable.a,zI a0.c.allocatable.b,zI a0.c.allocatable.c,.list false 102 (a0.c.thresholds.map aL),zI a0.c.period,zI a0.c.retries,zI a0.c.maxAge,zI a0.c.dead,.gptr i0_0 0,.gptr i0_1 0,zI a0.state.round,.list false 83 (a0.state.pods.map aN),zB a0.state.on.a,zB a0.state.on.b,zB a0.state.on.c,.list false 3 (a0.since.map zI),zI a0.calm.a,zI a0.calm.b,zI a0.calm.c,zI a0.sample.time,zI a0.sample.avail.a,zI a0.sample.avail.b,zI a0.sample.avail.c,.list false 280 (a0.sample.use.map bC),zB a0.fresh,zI a0.fuse,zB a0.dead]),(i0_0,[.list false 4 (a0_0.queue.l.map zB),zI a0_0.retries,hdM i0_0m2 pi0_0m2 a0_0.boxes si0_0m2,.list false 150 (a0_0.images.map aQ)]),(i0_0m2,lob pi0_0m2 aG a0_0.boxes si0_0m2),(i0_1,[.gptr i0_1_0 0,zI a0_1.version]),(i0_1_0,[.gmap i0_1_0_0,.list true 69 (a0_1_0.open_.map bG)]),(i0_1_0_0,aV keS (fun (x:List UInt8)=> .list false 5 (x.map zU8)) a0_1_0_0)]):=by
  refine a8 Tryz.func15 rfl rfl rfl rfl fun base=>?_
  unfold nB at h
  refine srd 2 rfl [0,1] [] rfl (aB (aB (aA (rh 4 [0] [] rfl ⟨rfl,trivial⟩ (aC.done [0,1,11] [] rfl (aD h rfl (fun h=>?_) (fun h=>?_)))))))
  ·cases h
  refine aE (aB (aA (rh 5 [0] [] rfl ⟨rfl,trivial⟩ ?_)))
  obtain ⟨v1,hv1,h⟩:=bI h
  refine aP Tryz.call40 (qF hv1) rfl ?_
  refine rn 5 rfl (aC.done [0,1,6,7] [] rfl (aB (aF (srd 3 rfl [0,1,6,21] [] rfl (aD h rfl (fun h=>?_) (fun h=>?_))))))
  ·refine srd 2 rfl [4,5] [] rfl ?_
   cases h;exact aJ ⟨.inl rfl,_,[0,0,0,0,0,0],_,_,rfl,rfl,rfl,rfl,rfl⟩
  cases h
def gO (a0:SAgent) (_a0_0:SWorld) (_a0_1:SStore) (_a0_1_0:SDisk) (_a0_1_0_0:List ((List UInt8)×(List UInt8))):Option SState:=
  bO (cY a0.state.pods) fun v1=>
  some (⟨a0.state.round,v1,a0.state.on⟩:SState)
theorem l3 {a0:SAgent} {a0_0:SWorld} {a0_1:SStore} {a0_1_0:SDisk} {a0_1_0_0:List ((List UInt8)×(List UInt8))} {i0 i0_0 i0_1 i0_1_0 i0_1_0_0:Nat} {i0_0m2:Nat} {pi0_0m2 si0_0m2:Slk 4} {r:SState} (h:gO a0 a0_0 a0_1 a0_1_0 a0_1_0_0=some r):aO Tryz.prog 8 [.gptr i0 0] [(i0,[zI a0.c.capacity.a,zI a0.c.capacity.b,zI a0.c.capacity.c,zI a0.c.allocatable.a,zI a0.c.allocatable.b,zI a0.c.allocatable.c,.list false 102 (a0.c.thresholds.map aL),zI a0.c.period,zI a0.c.retries,zI a0.c.maxAge,zI a0.c.dead,.gptr i0_0 0,.gptr i0_1 0,zI a0.state.round,.list false 83 (a0.state.pods.map aN),zB a0.state.on.a,zB a0.state.on.b,zB a0.state.on.c,.list false 3 (a0.since.map zI),zI a0.calm.a,zI a0.calm.b,zI a0.calm.c,zI a0.sample.time,zI a0.sample.avail.a,zI a0.sample.avail.b,zI a0.sample.avail.c,.list false 280 (a0.sample.use.map bC),zB a0.fresh,zI a0.fuse,zB a0.dead]),(i0_0,[.list false 4 (a0_0.queue.l.map zB),zI a0_0.retries,hdM i0_0m2 pi0_0m2 a0_0.boxes si0_0m2,.list false 150 (a0_0.images.map aQ)]),(i0_0m2,lob pi0_0m2 aG a0_0.boxes si0_0m2),(i0_1,[.gptr i0_1_0 0,zI a0_1.version]),(i0_1_0,[.gmap i0_1_0_0,.list true 69 (a0_1_0.open_.map bG)]),(i0_1_0_0,aV keS (fun (x:List UInt8)=> .list false 5 (x.map zU8)) a0_1_0_0)] (fun v outs=>v=e9 r∧outs=[(i0,[zI a0.c.capacity.a,zI a0.c.capacity.b,zI a0.c.capacity.c,zI a0.c.allocatable.a,zI a0.c.allocatable.b,zI a0.c.allocatable.c,.list false 102 (a0.c.thresholds.map aL),zI a0.c.period,zI a0.c.retries,zI a0.c.maxAge,zI a0.c.dead,.gptr i0_0 0,.gptr i0_1 0,zI a0.state.round,.list false 83 (a0.state.pods.map aN),zB a0.state.on.a,zB a0.state.on.b,zB a0.state.on.c,.list false 3 (a0.since.map zI),zI a0.calm.a,zI a0.calm.b,zI a0.calm.c,zI a0.sample.time,zI a0.sample.avail.a,zI a0.sample.avail.b,zI a0.sample.avail.c,.list false 280 (a0.sample.use.map bC),zB a0.fresh,zI a0.fuse,zB a0.dead]),(i0_0,[.list false 4 (a0_0.queue.l.map zB),zI a0_0.retries,hdM i0_0m2 pi0_0m2 a0_0.boxes si0_0m2,.list false 150 (a0_0.images.map aQ)]),(i0_0m2,lob pi0_0m2 aG a0_0.boxes si0_0m2),(i0_1,[.gptr i0_1_0 0,zI a0_1.version]),(i0_1_0,[.gmap i0_1_0_0,.list true 69 (a0_1_0.open_.map bG)]),(i0_1_0_0,aV keS (fun (x:List UInt8)=> .list false 5 (x.map zU8)) a0_1_0_0)]):=by
  refine a8 Tryz.func8 rfl rfl rfl rfl fun base=>?_
  unfold gO at h
  refine srd 1 rfl [0,2] [2] rfl (aB (aA (rh 6 [0] [] rfl ⟨rfl,trivial⟩ (aC.done [2,3] [2,3] rfl (aB (aA (rn 2 rfl ?_)))))))
  obtain ⟨v1,hv1,h⟩:=bI h
  refine aP Tryz.call27 (rG hv1) rfl ?_
  refine rn 2 rfl (aC.done [2,3] [2,3] rfl (srd 2 rfl [2] [2] rfl ?_))
  cases h;exact aJ ⟨.inl rfl,_,[0,0,0,0,0,0],_,_,rfl,rfl,rfl,rfl,rfl⟩
def rV :Option Bool:=
  bO (tM) fun v1=>
  bO (yU v1) fun v2=>
  bif !v2.2.1 then none else
  bO (j9 v2.2.2.2.2.2.1 v2.2.2.2.2.1 v2.2.2.2.2.2.2 v2.2.2.1 v2.2.2.2.1 (⟨[112],0,false,(⟨4,4,4⟩:V3 Int),(⟨0,0,0⟩:V3 Int),[119,101,98],7⟩:SPod)) fun v9=>
  bO (cR v9.2.2.2.1 v2.2.2.2.2.1 v9.2.2.2.2.1 v9.2.2.2.2.2 v9.2.2.1) fun v11=>
  bO (cR v11.2.2.2.1 v11.2.2.2.2.1 v11.2.2.2.2.2.1 v11.2.2.2.2.2.2 v11.2.2.1) fun v14=>
  bO (cR v14.2.2.2.1 v14.2.2.2.2.1 v14.2.2.2.2.2.1 v14.2.2.2.2.2.2 v14.2.2.1) fun v17=>
  bO (nC v17.2.2.2.1 v17.2.2.2.2.1 v17.2.2.2.2.2.1 v17.2.2.2.2.2.2 v17.2.2.1 (⟨3,(⟨4621256167635550208,4636666922610458624,4636666922610458624⟩:V3 Nat),([]:List SUsage)⟩:SRaw)) fun v20=>
  bO (cR v20.2 v17.2.2.2.2.1 v17.2.2.2.2.2.1 v17.2.2.2.2.2.2 v17.2.2.1) fun v21=>
  bO (nB v21.2.2.2.1 v21.2.2.2.2.1 v21.2.2.2.2.2.1 v21.2.2.2.2.2.2 v21.2.2.1 [113]) fun v24=>
  bO (gO v21.2.2.2.1 v21.2.2.2.2.1 v21.2.2.2.2.2.1 v21.2.2.2.2.2.2 v21.2.2.1) fun v25=>
  bif (((((((((((v9.2.1 !=0)||(v11.2.1 !=0))||(v14.2.1 !=0))||(v17.2.1 !=0))||(v20.1 !=0))||(v21.2.1 !=0))||(v24.2 !=4))||((v9.1.length:Int) !=1))||((v11.1.length:Int) !=1))||((v14.1.length:Int) !=1))||((v17.1.length:Int) !=1))||((v21.1.length:Int) !=3) then none else
  bO (idx v9.1 0) fun v26=>
  bO (bif (cG v26 (⟨1,[112],0,0⟩:SEvent)) then (idx v11.1 0) else some default) fun v27=>
  bO (bif ((cG v26 (⟨1,[112],0,0⟩:SEvent))&&(cG v27 (⟨8,[112],0,0⟩:SEvent))) then (idx v14.1 0) else some default) fun v28=>
  bO (bif (((cG v26 (⟨1,[112],0,0⟩:SEvent))&&(cG v27 (⟨8,[112],0,0⟩:SEvent)))&&(cG v28 (⟨9,[119,101,98],0,7⟩:SEvent))) then (idx v17.1 0) else some default) fun v29=>
  bO (bif ((((cG v26 (⟨1,[112],0,0⟩:SEvent))&&(cG v27 (⟨8,[112],0,0⟩:SEvent)))&&(cG v28 (⟨9,[119,101,98],0,7⟩:SEvent)))&&(cG v29 (⟨10,[112],0,0⟩:SEvent))) then (idx v21.1 0) else some default) fun v30=>
  bO (bif (((((cG v26 (⟨1,[112],0,0⟩:SEvent))&&(cG v27 (⟨8,[112],0,0⟩:SEvent)))&&(cG v28 (⟨9,[119,101,98],0,7⟩:SEvent)))&&(cG v29 (⟨10,[112],0,0⟩:SEvent)))&&(cG v30 (⟨6,([]:List UInt8),0,0⟩:SEvent))) then (idx v21.1 1) else some default) fun v31=>
  bO (bif ((((((cG v26 (⟨1,[112],0,0⟩:SEvent))&&(cG v27 (⟨8,[112],0,0⟩:SEvent)))&&(cG v28 (⟨9,[119,101,98],0,7⟩:SEvent)))&&(cG v29 (⟨10,[112],0,0⟩:SEvent)))&&(cG v30 (⟨6,([]:List UInt8),0,0⟩:SEvent)))&&(cG v31 (⟨5,[112],0,0⟩:SEvent))) then (idx v21.1 2) else some default) fun v32=>
  some ((((((((((cG v26 (⟨1,[112],0,0⟩:SEvent))&&(cG v27 (⟨8,[112],0,0⟩:SEvent)))&&(cG v28 (⟨9,[119,101,98],0,7⟩:SEvent)))&&(cG v29 (⟨10,[112],0,0⟩:SEvent)))&&(cG v30 (⟨6,([]:List UInt8),0,0⟩:SEvent)))&&(cG v31 (⟨5,[112],0,0⟩:SEvent)))&&(cG v32 (⟨12,[112],0,0⟩:SEvent)))&&(v25.round==4))&&v25.on.a)&&((v25.pods.length:Int)==0))
theorem AD {r:Bool} (h:rV=some r):aI Tryz.prog 5 [] (zB r):=by
  refine aK Tryz.func5 rfl rfl rfl rfl fun base=>?_
  unfold rV at h
  refine srd 1 rfl [] [] rfl (aB (aA ?_))
  obtain ⟨v1,hv1,h⟩:=bI h
  refine aP Tryz.call13 (BU hv1) rfl ?_
  obtain ⟨v2,hv2,h⟩:=bI h
  refine bL [] Tryz.call12 (I5 hv2) rfl rfl ?_
  rintro _ _ ⟨o3,o4,o5,o6,o7,m8,pm8,sm8,rfl,rfl⟩
  refine rn 6 rfl (aC.objs [5,4,2,2,0,0] rfl ?_)
  refine aC.done [1,2] [1] rfl (aB (srd 2 rfl [1,23] [1] rfl (aD h rfl (fun h=>?_) (fun h=>?_))))
  ·cases h
  refine aE (aB (aA (rn 4 rfl ?_)))
  obtain ⟨v9,hv9,h⟩:=bI h
  refine bL [1,1,1,0,0,0] Tryz.call9 (sT hv9) rfl rfl ?_
  rintro _ _ ⟨o10,rfl,rfl⟩
  refine rn 5 rfl (aC.objs [4,1,1,1,1,0] rfl ?_)
  refine aC.done [1,3,4] [1] rfl (aB (aA (rn 2 rfl ?_)))
  obtain ⟨v11,hv11,h⟩:=bI h
  refine bL [1,1,1,0,0,0] Tryz.call7 (cX hv11) rfl rfl ?_
  rintro _ _ ⟨o12,m13,pm13,sm13,rfl,rfl⟩
  refine rn 5 rfl (aC.objs [4,1,1,1,1,0] rfl ?_)
  refine aC.done [1,3,4,5,6] [1] rfl (aB (aA (rn 2 rfl ?_)))
  obtain ⟨v14,hv14,h⟩:=bI h
  refine bL [1,1,1,0,0,0] Tryz.call7 (cX hv14) rfl rfl ?_
  rintro _ _ ⟨o15,m16,pm16,sm16,rfl,rfl⟩
  refine rn 5 rfl (aC.objs [4,1,1,1,1,0] rfl ?_)
  refine aC.done [1,3,4,5,6,7,8] [1] rfl (aB (aA (rn 2 rfl ?_)))
  obtain ⟨v17,hv17,h⟩:=bI h
  refine bL [1,1,1,0,0,0] Tryz.call7 (cX hv17) rfl rfl ?_
  rintro _ _ ⟨o18,m19,pm19,sm19,rfl,rfl⟩
  refine rn 5 rfl (aC.objs [4,1,1,1,1,0] rfl ?_)
  refine aC.done [1,3,4,5,6,7,8,9,10] [1] rfl (aB (aA (rn 4 rfl ?_)))
  obtain ⟨v20,hv20,h⟩:=bI h
  refine bR [1,1,1,0,0,0] Tryz.call14 (AS hv20) rfl rfl ?_
  refine rn 1 rfl (aC.objs [3,0,0,0,0,0] rfl ?_)
  refine aC.done [1,3,4,5,6,7,8,9,10,11] [1] rfl (aB (aA (rn 2 rfl ?_)))
  obtain ⟨v21,hv21,h⟩:=bI h
  refine bL [1,1,1,0,0,0] Tryz.call7 (cX hv21) rfl rfl ?_
  rintro _ _ ⟨o22,m23,pm23,sm23,rfl,rfl⟩
  refine rn 5 rfl (aC.objs [4,1,1,1,1,0] rfl ?_)
  refine aC.done [1,3,4,5,6,7,8,9,10,11,12,13] [1] rfl (aB (aA (rn 2 rfl ?_)))
  obtain ⟨v24,hv24,h⟩:=bI h
  refine bR [1,1,1,0,0,0] Tryz.call15 (AR hv24) rfl rfl ?_
  refine rh 5 [] [61,65,14] rfl trivial (aC.objs [3,0,0,0,0,0] rfl ?_)
  refine aC.done [1,3,4,5,6,7,8,9,10,11,12,13,15] [1] rfl (aB (aA (rn 2 rfl ?_)))
  obtain ⟨v25,hv25,h⟩:=bI h
  refine bR [1,1,1,0,0,0] Tryz.call8 (l3 hv25) rfl rfl ?_
  refine rn 2 rfl (aC.objs [] rfl ?_)
  refine aC.done [3,4,5,6,7,8,9,10,11,12,13,15,16] [16] rfl (aB (aB (aA (rh 51 [v9.1.length,v11.1.length,v14.1.length,v17.1.length,v21.1.length] [] rfl ⟨List.length_map ..,List.length_map ..,List.length_map ..,List.length_map ..,List.length_map ..,trivial⟩ (aC.done [3,5,7,9,12,16,120] [16] rfl (aD h rfl (fun h=>?_) (fun h=>?_)))))))
  ·cases h
  refine aE (aB (aA ?_))
  obtain ⟨v26,hv26,h⟩:=bI h
  refine rn 1 rfl (rd (rIx hv26) ?_)
  refine rn 2 rfl (rd (rEq (a:=v26) (b:=(⟨1,[112],0,0⟩:SEvent)) oX) ?_)
  obtain ⟨v27,hv27,h⟩:=bI h
  refine rn 2 rfl (rdg 126 true [] (fun ht=>rIx (gd hv27 (ht.1 _ rfl))) ?_)
  refine rn 2 rfl (rdg 126 true [] (fun _=>rEq (a:=v27) (b:=(⟨8,[112],0,0⟩:SEvent)) oX) ?_)
  obtain ⟨v28,hv28,h⟩:=bI h
  refine rn 3 rfl (rdg 133 true [] (fun ht=>rIx (gd hv28 (ht.1 _ rfl))) ?_)
  refine rn 2 rfl (rdg 133 true [] (fun _=>rEq (a:=v28) (b:=(⟨9,[119,101,98],0,7⟩:SEvent)) oX) ?_)
  obtain ⟨v29,hv29,h⟩:=bI h
  refine rn 3 rfl (rdg 140 true [] (fun ht=>rIx (gd hv29 (ht.1 _ rfl))) ?_)
  refine rn 2 rfl (rdg 140 true [] (fun _=>rEq (a:=v29) (b:=(⟨10,[112],0,0⟩:SEvent)) oX) ?_)
  obtain ⟨v30,hv30,h⟩:=bI h
  refine rn 3 rfl (rdg 147 true [] (fun ht=>rIx (gd hv30 (ht.1 _ rfl))) ?_)
  refine rn 2 rfl (rdg 147 true [] (fun _=>rEq (a:=v30) (b:=(⟨6,([]:List UInt8),0,0⟩:SEvent)) oX) ?_)
  obtain ⟨v31,hv31,h⟩:=bI h
  refine rn 3 rfl (rdg 154 true [] (fun ht=>rIx (gd hv31 (ht.1 _ rfl))) ?_)
  refine rn 2 rfl (rdg 154 true [] (fun _=>rEq (a:=v31) (b:=(⟨5,[112],0,0⟩:SEvent)) oX) ?_)
  obtain ⟨v32,hv32,h⟩:=bI h
  refine rn 3 rfl (rdg 161 true [] (fun ht=>rIx (gd hv32 (ht.1 _ rfl))) ?_)
  refine rn 2 rfl (rdg 161 true [] (fun _=>rEq (a:=v32) (b:=(⟨12,[112],0,0⟩:SEvent)) oX) ?_)
  refine rh 18 [v25.pods.length] [] rfl ⟨List.length_map ..,trivial⟩ (aC.done [0] [] rfl ?_)
  cases h;exact aJ ⟨.inl rfl,rfl,rfl⟩
def p9 (v3:List UInt8):Option (List UInt8):=
  some v3
def qA (a0:SState) (k690:Option (List UInt8)):Nat→Option (List UInt8)
  |0=>none
  |_m6+1=>
   bif decide (0<(a0.pods.length:Int)) then none else
   k690
def vI (a0:SState) (x1:List UInt8):Option (List UInt8):=
  bO (bM x1 [(u8 (0:Int))]) fun v2=>
  bO (bM v2 [(u8 (a0.pods.length:Int))]) fun v3=>
  qA a0 (p9 v3) aT
def vH (a0:SState) (x1:List UInt8):Option (List UInt8):=
  bif a0.on.c then none else
  vI a0 x1
def vG (a0:SState) (x1:List UInt8):Option (List UInt8):=
  bif a0.on.b then none else
  vH a0 x1
def p8 (a0:SState) (x1:List UInt8):Option (List UInt8):=
  bif a0.on.a then none else
  vG a0 x1
def mI (k790:(List UInt8)→Option (List UInt8)):Nat→(List UInt8)→Int→Int→Option (List UInt8)
  |0,_,_,_=>none
  |m7+1,x4,x5,x6=>
   bif decide (x6<8) then
     bO (bM [u8 (x5.tmod 256)] x4) fun v7=>
     (mI k790 m7) v7 (w64 (x5.tdiv 256)) (w64 (x6+1))
   else
     k790 x4
def A7 (a0:SState):Option (List UInt8):=
  mI (p8 a0) aT ([]:List UInt8) a0.round 0
theorem LC {a0:SState} {r:List UInt8} (h:A7 a0=some r):aI Tryz.prog 21 [e9 a0] (.list true 5 (r.map zU8)):=by
  refine aK Tryz.func21 rfl rfl rfl rfl fun base=>?_
  unfold A7 at h
  refine srd 2 rfl [1] [1] rfl (srd 1 rfl [1,3] [1] rfl (srd 3 rfl [1,3,4] [1] rfl (aS (fun e=>∃x1,e=⟨[(1,[],.lptr 1 0),(3,[],.list true 5 (x1.map zU8))],[],[(1,[zI a0.round,.list false 83 (a0.pods.map aN),zB a0.on.a,zB a0.on.b,zB a0.on.c])],[],base⟩∧p8 a0 x1=some r) ?_ ?_)))
  ·refine srd 1 rfl [1,3,4,5] [1] rfl (aF (aU (fun m7 e=>∃x4 x5 x6,e=⟨[(1,[],.lptr 1 0),(3,[],.list true 5 (x4.map zU8)),(4,[],zI x5),(5,[],zI x6)],[],[(1,[zI a0.round,.list false 83 (a0.pods.map aN),zB a0.on.a,zB a0.on.b,zB a0.on.c])],[],base⟩∧mI (p8 a0) m7 x4 x5 x6=some r) aT ⟨_,_,_,rfl,h⟩ ?_ ?_))
   ·rintro m7 _ ⟨x4,x5,x6,rfl,h⟩
    rw [mI] at h
    refine aB (srd 2 rfl [1,3,4,5,11] [1] rfl (aD h rfl (fun h=>?_) (fun h=>?_)))
    ·refine aE (aB (aF (aB (aA (rn 3 rfl (cU8 16 ?_))))))
     obtain ⟨v7,hv7,h⟩:=bI h
     refine rn 2 rfl (iG (f:=zU8) hv7 ?_)
     refine rh 1 [] [3] rfl trivial (aC.done [1,3,4,5] [1] rfl ?_)
     refine aA (rn 3 rfl (aC.done [1,3,4,5] [1] rfl ?_))
     refine aA (rn 3 rfl (aC.done [1,3,4,5] [1] rfl ?_))
     exact ⟨_,_,_,rfl,h⟩
    refine aR [1,3] [1] rfl (CWp.exit ?_)
    exact ⟨_,rfl,h⟩
   rintro _ ⟨_,_,_,_,h⟩
   rw [mI] at h;cases h
  rintro _ ⟨x1,rfl,h⟩
  unfold p8 at h
  refine srd 1 rfl [1,3,6] [1] rfl (aS (fun e=>e=⟨[(1,[],.lptr 1 0),(3,[],.list true 5 (x1.map zU8)),(6,[],zI 0)],[],[(1,[zI a0.round,.list false 83 (a0.pods.map aN),zB a0.on.a,zB a0.on.b,zB a0.on.c])],[],base⟩∧vG a0 x1=some r) ?_ ?_)
  ·refine srd 3 rfl [1,3,6,24] [1] rfl (aD h rfl (fun h=>?_) (fun h=>?_))
   ·cases h
   refine aR [1,3,6] [1] rfl (aE ?_)
   exact ⟨rfl,h⟩
  rintro _ ⟨rfl,h⟩
  unfold vG at h
  refine aS (fun e=>e=⟨[(1,[],.lptr 1 0),(3,[],.list true 5 (x1.map zU8)),(6,[],zI 0)],[],[(1,[zI a0.round,.list false 83 (a0.pods.map aN),zB a0.on.a,zB a0.on.b,zB a0.on.c])],[],base⟩∧vH a0 x1=some r) ?_ ?_
  ·refine srd 3 rfl [1,3,6,29] [1] rfl (aD h rfl (fun h=>?_) (fun h=>?_))
   ·cases h
   refine aR [1,3,6] [1] rfl (aE ?_)
   exact ⟨rfl,h⟩
  rintro _ ⟨rfl,h⟩
  unfold vH at h
  refine aS (fun e=>e=⟨[(1,[],.lptr 1 0),(3,[],.list true 5 (x1.map zU8)),(6,[],zI 0)],[],[(1,[zI a0.round,.list false 83 (a0.pods.map aN),zB a0.on.a,zB a0.on.b,zB a0.on.c])],[],base⟩∧vI a0 x1=some r) ?_ ?_
  ·refine srd 3 rfl [1,3,6,34] [1] rfl (aD h rfl (fun h=>?_) (fun h=>?_))
   ·cases h
   refine aR [1,3,6] [1] rfl (aE ?_)
   exact ⟨rfl,h⟩
  rintro _ ⟨rfl,h⟩
  unfold vI at h
  refine aB (b8 10 (by kernel_rfl) ?_)
  refine cf2 (d:=37) (s:=3) (v:= .list true 5 (x1.map zU8)) (u:= .list false 5 (x1.map zU8)) rfl [(3,[],_)] [] ⟨rfl,trivial⟩ trivial (fun fr X O hf=>?_) ?_
  ·exact rh 1 [] [37] rfl trivial (aW rfl)
  refine cfq rfl rfl (fun _ _ _=>rfl) ?_
  refine cf1 (d:=39) (v:= .lit (.int .u8 ((u8 (0:Int)).toNat:Int))) rfl [(38,[],_)] [] ⟨rfl,trivial⟩ trivial (fun fr X O hf=>?_) ?_
  ·exact rn 1 rfl (aW (V7))
  refine cfb (d:=40) (v:= .list true 5 ([(u8 (0:Int))].map zU8)) rfl rfl (fun _ _ _=>rfl) (fun _ _ _=>rfl) ?_
  obtain ⟨v2,hv2,h⟩:=bI h
  refine cf2 (d:=41) (s:=37) (v:= .list true 5 (v2.map zU8)) (u:= .list false 5 (x1.map zU8)) rfl [(37,[],_),(40,[],_)] [] ⟨rfl,rfl,trivial⟩ trivial (fun fr X O hf=>?_) ?_
  ·refine iG (f:=zU8) hv2 ?_
   exact aW rfl
  refine cfq rfl rfl (fun _ _ _=>rfl) ?_
  refine cfp rfl [] [(1,_)] rfl ⟨rfl,trivial⟩ (fun _ _ _=>rfl) trivial ?_
  refine cfp rfl [a0.pods.length] [] rfl trivial (fun _ _ _=>rfl) ⟨List.length_map ..,trivial⟩ ?_
  refine cf1 (d:=45) (v:= .lit (.int .u8 ((u8 (a0.pods.length:Int)).toNat:Int))) rfl [(44,[],_)] [] ⟨rfl,trivial⟩ trivial (fun fr X O hf=>?_) ?_
  ·exact rn 1 rfl (aW (V7))
  refine cfb (d:=46) (v:= .list true 5 ([(u8 (a0.pods.length:Int))].map zU8)) rfl rfl (fun _ _ _=>rfl) (fun _ _ _=>rfl) ?_
  refine b6.nil ⟨by kernel_rfl,?_⟩
  obtain ⟨v3,hv3,h⟩:=bI h
  refine iG (f:=zU8) hv3 ?_
  refine rh 1 [] [3] rfl trivial (aC.done [1,3] [1] rfl (aS (fun e=>e=⟨[(3,[],.list true 5 (v3.map zU8))],[],[],[],base⟩∧p9 v3=some r) ?_ ?_))
  ·refine srd 1 rfl [1,3,7] [1] rfl (aF (aU (fun m6 e=>e=⟨[(1,[],.lptr 1 0),(3,[],.list true 5 (v3.map zU8)),(7,[],zI 0)],[],[(1,[zI a0.round,.list false 83 (a0.pods.map aN),zB a0.on.a,zB a0.on.b,zB a0.on.c])],[],base⟩∧qA a0 (p9 v3) m6=some r) aT ⟨rfl,h⟩ ?_ ?_))
   ·rintro m6 _ ⟨rfl,h⟩
    rw [qA] at h
    refine aB (aB (aA (rh 5 [a0.pods.length] [] rfl ⟨List.length_map ..,trivial⟩ (aC.done [1,3,7,52] [1] rfl (aD h rfl (fun h=>?_) (fun h=>?_))))))
    ·cases h
    refine aR [3] [] rfl (CWp.exit ?_)
    exact ⟨rfl,h⟩
   rintro _ ⟨_,h⟩
   rw [qA] at h;cases h
  rintro _ ⟨rfl,h⟩
  unfold p9 at h
  refine aB (aA (rh 2 [] [73,2] rfl trivial (aC.done [2] [] rfl ?_)))
  cases h;exact aJ ⟨.inl rfl,rfl,rfl⟩
def tS (a0:Int):Option (List UInt8):=
  some [u8 (a0.tmod 256),u8 ((w64 (a0.tdiv 256)).tmod 256),u8 ((w64 (a0.tdiv 65536)).tmod 256),u8 ((w64 (a0.tdiv 16777216)).tmod 256)]
theorem BX {a0:Int} {r:List UInt8} (h:tS a0=some r):aI Tryz.prog 46 [zI a0] (.list true 5 (r.map zU8)):=by
  refine aK Tryz.func46 rfl rfl rfl rfl fun base=>?_
  unfold tS at h
  refine srd 1 rfl [0] [] rfl (aB (aA (rn 15 rfl (cU8 5 ?_))))
  refine cU8 9 ?_
  refine cU8 13 ?_
  refine cU8 17 ?_
  refine rh 2 [] [2] rfl trivial (aC.done [2] [] rfl ?_)
  cases h;exact aJ ⟨.inl rfl,rfl,rfl⟩
def iY (x1:Int):Option Int:=
  some (IntKind.u32.wrap (BitVec.ofInt 32 x1^^^BitVec.ofInt 32 4294967295).toNat)
def n7 (x3:Int) (q2:Int→Int→Option Int) (x4:Int):Option Int:=
  q2 x4 (w64 (x3+1))
def rZ (x7:Int) (q4:Int→Int→Option Int) (x8:Int):Option Int:=
  q4 x8 (w64 (x7+1))
def iZ (k490:Int→Option Int):Nat→Int→Int→Option Int
  |0,_,_=>none
  |m4+1,x6,x7=>
   bif decide (x7<8) then
     bif (x6.tmod 2)==1 then
       rZ x7 (iZ k490 m4) (IntKind.u32.wrap (BitVec.ofInt 32 (IntKind.u32.wrap (x6.tdiv 2))^^^BitVec.ofInt 32 3988292384).toNat)
     else
       rZ x7 (iZ k490 m4) (IntKind.u32.wrap (x6.tdiv 2))
   else
     k490 x6
def gF (a0:List UInt8) (k290:Int→Option Int):Nat→Int→Int→Option Int
  |0,_,_=>none
  |m2+1,x2,x3=>
   bif decide (x3<(a0.length:Int)) then
     bO (idx a0 x3) fun v5=>
     iZ (n7 x3 (gF a0 k290 m2)) aT (IntKind.u32.wrap (BitVec.ofInt 32 x2^^^BitVec.ofInt 32 (IntKind.u32.wrap (v5.toNat:Int))).toNat) 0
   else
     k290 x2
def CM (a0:List UInt8):Option Int:=
  gF a0 iY aT 4294967295 0
theorem MO {a0:List UInt8} {r:Int} (h:CM a0=some r):aI Tryz.prog 103 [.list false 5 (a0.map zU8)] (.lit (.int .u32 r)):=by
  refine aK Tryz.func103 rfl rfl rfl rfl fun base=>?_
  unfold CM at h
  refine srd 1 rfl [0] [] rfl (srd 1 rfl [0,3] [] rfl (aS (fun e=>∃x1,e=⟨[(3,[],.lit (.int .u32 x1))],[],[],[],base⟩∧iY x1=some r) ?_ ?_))
  ·refine srd 1 rfl [0,3,4] [] rfl (aF (aU (fun m2 e=>∃x2 x3,e=⟨[(0,[],.list false 5 (a0.map zU8)),(3,[],.lit (.int .u32 x2)),(4,[],zI x3)],[],[],[],base⟩∧gF a0 (iY) m2 x2 x3=some r) aT ⟨_,_,rfl,h⟩ ?_ ?_))
   ·rintro m2 _ ⟨x2,x3,rfl,h⟩
    rw [gF] at h
    refine aB (aB (aA (rh 4 [a0.length] [] rfl ⟨List.length_map ..,trivial⟩ (aC.done [0,3,4,10] [] rfl (aD h rfl (fun h=>?_) (fun h=>?_))))))
    ·refine aE (aS (fun e=>∃x4,e=⟨[(0,[],.list false 5 (a0.map zU8)),(3,[],.lit (.int .u32 x4)),(4,[],zI x3)],[],[],[],base⟩∧n7 x3 (gF a0 (iY) m2) x4=some r) ?_ ?_)
     ·refine aF (aB (aA ?_))
      obtain ⟨v5,hv5,h⟩:=bI h
      refine rn 3 rfl (rd (rIx hv5) ?_)
      refine rn 4 rfl (aC.done [0,3,4] [] rfl (srd 1 rfl [0,3,4,5] [] rfl (aF (aU (fun m4 e=>∃x6 x7,e=⟨[(0,[],.list false 5 (a0.map zU8)),(3,[],.lit (.int .u32 x6)),(4,[],zI x3),(5,[],zI x7)],[],[],[],base⟩∧iZ (n7 x3 (gF a0 (iY) m2)) m4 x6 x7=some r) aT ⟨_,_,rfl,h⟩ ?_ ?_))))
      ·rintro m4 _ ⟨x6,x7,rfl,h⟩
       rw [iZ] at h
       refine aB (srd 2 rfl [0,3,4,5,21] [] rfl (aD h rfl (fun h=>?_) (fun h=>?_)))
       ·refine aE (aS (fun e=>∃x8,e=⟨[(0,[],.list false 5 (a0.map zU8)),(3,[],.lit (.int .u32 x8)),(4,[],zI x3),(5,[],zI x7)],[],[],[],base⟩∧rZ x7 (iZ (n7 x3 (gF a0 (iY) m2)) m4) x8=some r) ?_ ?_)
        ·refine aF (srd 3 rfl [0,3,4,5,6] [] rfl (srd 3 rfl [0,3,4,5,6] [] rfl (srd 2 rfl [0,3,4,5,29] [] rfl (aD h rfl (fun h=>?_) (fun h=>?_)))))
         ·refine aA (rn 3 rfl (aC.done [0,3,4,5] [] rfl ?_))
          exact ⟨_,rfl,h⟩
         refine aR [0,3,4,5] [] rfl (aE ?_)
         exact ⟨_,rfl,h⟩
        rintro _ ⟨x8,rfl,h⟩
        unfold rZ at h
        refine aA (rn 3 rfl (aC.done [0,3,4,5] [] rfl ?_))
        exact ⟨_,_,rfl,h⟩
       refine aR [0,3,4] [] rfl (CWp.exit ?_)
       exact ⟨_,rfl,h⟩
      rintro _ ⟨_,_,_,h⟩
      rw [iZ] at h;cases h
     rintro _ ⟨x4,rfl,h⟩
     unfold n7 at h
     refine aA (rn 3 rfl (aC.done [0,3,4] [] rfl ?_))
     exact ⟨_,_,rfl,h⟩
    refine aR [3] [] rfl (CWp.exit ?_)
    exact ⟨_,rfl,h⟩
   rintro _ ⟨_,_,_,h⟩
   rw [gF] at h;cases h
  rintro _ ⟨x1,rfl,h⟩
  unfold iY at h
  refine srd 3 rfl [2] [] rfl ?_
  cases h;exact aJ ⟨.inl rfl,rfl,rfl⟩
def p7 (x3:List UInt8):Option (List UInt8):=
  some x3
def mH (k290:(List UInt8)→Option (List UInt8)):Nat→Int→(List UInt8)→Int→Option (List UInt8)
  |0,_,_,_=>none
  |m2+1,x4,x5,x6=>
   bif decide (x6<4) then
     bO (bM x5 [u8 (x4.tmod 256)]) fun v7=>
     (mH k290 m2) (IntKind.u32.wrap (x4.tdiv 256)) v7 (w64 (x6+1))
   else
     k290 x5
def A5 (a0:List UInt8):Option (List UInt8):=
  bO (CM a0) fun v1=>
  bO (bM ([]:List UInt8) a0) fun v2=>
  mH p7 aT v1 v2 0
theorem LA {a0:List UInt8} {r:List UInt8} (h:A5 a0=some r):aI Tryz.prog 47 [.list false 5 (a0.map zU8)] (.list true 5 (r.map zU8)):=by
  refine aK Tryz.func47 rfl rfl rfl rfl fun base=>?_
  unfold A5 at h
  refine srd 1 rfl [0] [] rfl (aB (aA (rn 1 rfl ?_)))
  obtain ⟨v1,hv1,h⟩:=bI h
  refine aP Tryz.call103 (MO hv1) rfl ?_
  refine rn 1 rfl (aC.done [0,3] [] rfl (aB (aA (HL ?_))))
  obtain ⟨v2,hv2,h⟩:=bI h
  refine rn 1 rfl (iG (f:=zU8) hv2 ?_)
  refine rh 1 [] [4] rfl trivial (aC.done [3,4] [] rfl (aS (fun e=>∃x3,e=⟨[(4,[],.list true 5 (x3.map zU8))],[],[],[],base⟩∧p7 x3=some r) ?_ ?_))
  ·refine srd 1 rfl [3,4,5] [] rfl (aF (aU (fun m2 e=>∃x4 x5 x6,e=⟨[(3,[],.lit (.int .u32 x4)),(4,[],.list true 5 (x5.map zU8)),(5,[],zI x6)],[],[],[],base⟩∧mH (p7) m2 x4 x5 x6=some r) aT ⟨_,_,_,rfl,h⟩ ?_ ?_))
   ·rintro m2 _ ⟨x4,x5,x6,rfl,h⟩
    rw [mH] at h
    refine aB (srd 2 rfl [3,4,5,12] [] rfl (aD h rfl (fun h=>?_) (fun h=>?_)))
    ·refine aE (aB (aF (aB (aA (rh 4 [] [15] rfl trivial (cU8 18 ?_))))))
     obtain ⟨v7,hv7,h⟩:=bI h
     refine rn 1 rfl (iG (f:=zU8) hv7 ?_)
     refine rh 1 [] [4] rfl trivial (aC.done [3,4,5] [] rfl ?_)
     refine aA (rn 3 rfl (aC.done [3,4,5] [] rfl ?_))
     refine aA (rn 3 rfl (aC.done [3,4,5] [] rfl ?_))
     exact ⟨_,_,_,rfl,h⟩
    refine aR [4] [] rfl (CWp.exit ?_)
    exact ⟨_,rfl,h⟩
   rintro _ ⟨_,_,_,_,h⟩
   rw [mH] at h;cases h
  rintro _ ⟨x3,rfl,h⟩
  unfold p7 at h
  refine aB (aA (rh 2 [] [23,2] rfl trivial (aC.done [2] [] rfl ?_)))
  cases h;exact aJ ⟨.inl rfl,rfl,rfl⟩
def A6 (a0:Int) (a1:List UInt8):Option (List UInt8):=
  bO (tS a0) fun v2=>
  bO (bM ([66,76,71,49]:List UInt8) v2) fun v3=>
  bO (neO v2) fun _v4=>
  bO (tS (a1.length:Int)) fun v5=>
  bO (bM v3 v5) fun v6=>
  bO (bM v6 a1) fun v7=>
  bO (A5 v7) fun v8=>
  some v8
theorem LB {a0:Int} {a1:List UInt8} {r:List UInt8} (h:A6 a0 a1=some r):aI Tryz.prog 20 [zI a0,.list false 5 (a1.map zU8)] (.list true 5 (r.map zU8)):=by
  refine aK Tryz.func20 rfl rfl rfl rfl fun base=>?_
  unfold A6 at h
  refine srd 1 rfl [0,1] [] rfl (aB (aA (S5 (xs:=([66,76,71,49]:List UInt8).map zU8) fun b1=>?_)))
  refine rn 1 rfl ?_
  obtain ⟨v2,hv2,h⟩:=bI h
  refine aP Tryz.call46 (BX hv2) rfl ?_
  obtain ⟨v3,hv3,h⟩:=bI h
  obtain ⟨v4,hv4,h⟩:=bI h
  refine UZ (l:=([66,76,71,49]:List UInt8)) (b:=b1) hv3 (WI hv4) ?_
  refine rh 2 [a1.length] [] rfl ⟨List.length_map ..,trivial⟩ ?_
  obtain ⟨v5,hv5,h⟩:=bI h
  refine aP Tryz.call46 (BX hv5) rfl ?_
  obtain ⟨v6,hv6,h⟩:=bI h
  refine iG hv6 ?_
  refine rh 1 [] [5] rfl trivial (aC.done [1,5] [] rfl (aB (aA ?_)))
  obtain ⟨v7,hv7,h⟩:=bI h
  refine rh 2 [] [15] rfl trivial (iG hv7 ?_)
  obtain ⟨v8,hv8,h⟩:=bI h
  refine aP Tryz.call47 (LA hv8) rfl ?_
  refine rh 1 [] [4] rfl trivial (aC.done [4] [] rfl ?_)
  cases h;exact aJ ⟨.inl rfl,rfl,rfl⟩
end
section
open Go.RowKit
def tL (a0:Int) (a1:Int):Option (SNode×Bool×SDisk×(List ((List UInt8)×(List UInt8)))×SWorld×SAgent×SStore):=
  bO (tM) fun v1=>
  bO (rY v1) fun v2=>
  bO (DW v2) fun _v3=>
  bO (tG) fun v4=>
  bO (wI 1) fun v7=>
  bO (A7 (⟨a1,([]:List SEntry),(⟨false,false,false⟩:V3 Bool)⟩:SState)) fun v10=>
  bO (A6 a0 v10) fun v11=>
  bO (mC v4.1 v4.2 (⟨1,[109,97,105,110],([]:List UInt8),v11⟩:SOp)) fun v12=>
  bO (jU v12.2 v4.2) fun v13=>
  bO (q6 v2 v13.2 v13.1 v7) fun v15=>
  some ((⟨v2⟩:SNode),v15.1==0,v13.2,v13.1,v7,v15.2.1,v15.2.2)
theorem BT {a0:Int} {a1:Int} {r:SNode×Bool×SDisk×(List ((List UInt8)×(List UInt8)))×SWorld×SAgent×SStore} (h:tL a0 a1=some r):aO Tryz.prog 6 [zI a0,zI a1] [] (fun v outs=>∃(h0_:Nat) (h1_:Nat) (h2_:Nat) (h3_:Nat) (h4_:Nat) (h2_m2:Nat) (ph2_m2 sh2_m2:Slk 4),v= .tuple [.agg [.list false 5 (r.1.text.map zU8),.gptr h0_ 0,.gptr h2_ 0,.gptr h3_ 0],zB r.2.1]∧outs=[(h0_,[.gmap h1_,.list true 69 (r.2.2.1.open_.map bG)]),(h1_,aV keS (fun (x:List UInt8)=> .list false 5 (x.map zU8)) r.2.2.2.1),(h2_,[.list false 4 (r.2.2.2.2.1.queue.l.map zB),zI r.2.2.2.2.1.retries,hdM h2_m2 ph2_m2 r.2.2.2.2.1.boxes sh2_m2,.list false 150 (r.2.2.2.2.1.images.map aQ)]),(h2_m2,lob ph2_m2 aG r.2.2.2.2.1.boxes sh2_m2),(h3_,[zI r.2.2.2.2.2.1.c.capacity.a,zI r.2.2.2.2.2.1.c.capacity.b,zI r.2.2.2.2.2.1.c.capacity.c,zI r.2.2.2.2.2.1.c.allocatable.a,zI r.2.2.2.2.2.1.c.allocatable.b,zI r.2.2.2.2.2.1.c.allocatable.c,.list false 102 (r.2.2.2.2.2.1.c.thresholds.map aL),zI r.2.2.2.2.2.1.c.period,zI r.2.2.2.2.2.1.c.retries,zI r.2.2.2.2.2.1.c.maxAge,zI r.2.2.2.2.2.1.c.dead,.gptr h2_ 0,.gptr h4_ 0,zI r.2.2.2.2.2.1.state.round,.list false 83 (r.2.2.2.2.2.1.state.pods.map aN),zB r.2.2.2.2.2.1.state.on.a,zB r.2.2.2.2.2.1.state.on.b,zB r.2.2.2.2.2.1.state.on.c,.list false 3 (r.2.2.2.2.2.1.since.map zI),zI r.2.2.2.2.2.1.calm.a,zI r.2.2.2.2.2.1.calm.b,zI r.2.2.2.2.2.1.calm.c,zI r.2.2.2.2.2.1.sample.time,zI r.2.2.2.2.2.1.sample.avail.a,zI r.2.2.2.2.2.1.sample.avail.b,zI r.2.2.2.2.2.1.sample.avail.c,.list false 280 (r.2.2.2.2.2.1.sample.use.map bC),zB r.2.2.2.2.2.1.fresh,zI r.2.2.2.2.2.1.fuse,zB r.2.2.2.2.2.1.dead]),(h4_,[.gptr h0_ 0,zI r.2.2.2.2.2.2.version])]):=by
  refine a8 Tryz.func6 rfl rfl rfl rfl fun base=>?_
  unfold tL at h
  refine srd 2 rfl [0,1,4] [4] rfl (aB (aA ?_))
  obtain ⟨v1,hv1,h⟩:=bI h
  refine aP Tryz.call13 (BU hv1) rfl ?_
  obtain ⟨v2,hv2,h⟩:=bI h
  refine aP Tryz.call16 (AF hv2) rfl ?_
  obtain ⟨v3,hv3,h⟩:=bI h
  refine L4 (DX hv3).1 ?_
  obtain ⟨v4,hv4,h⟩:=bI h
  refine bL [] Tryz.call17 (yN hv4) rfl rfl ?_
  rintro _ _ ⟨o5,o6,rfl,rfl⟩
  obtain ⟨v7,hv7,h⟩:=bI h
  refine bL [] Tryz.call18 (DD hv7) rfl rfl ?_
  rintro _ _ ⟨o8,m9,pm9,sm9,rfl,rfl⟩
  refine rn 3 rfl (aC.done [0,1,4,6] [4,6] rfl (aB (aB (aA (rn 2 rfl (rd (CW (b:=false) Tryz.underlying24 (.inl ⟨rfl,rfl⟩)) ?_))))))
  refine rn 1 rfl (aC.want ?_)
  refine rn 1 rfl (aC.want ?_)
  refine rn 1 rfl (aC.want ?_)
  refine rd (CW (b:=false) Tryz.underlying25 (.inl ⟨rfl,rfl⟩)) ?_
  refine rd (fP) ?_
  refine aC.done [0,1,4,6,22] [4,6] rfl (dD rfl (by decide) ?_)
  refine aE (aB (b8 8 (by kernel_rfl) ?_))
  refine cfq rfl rfl (fun _ _ _=>rfl) ?_
  refine cfp rfl [] [(6,_)] rfl ⟨rfl,trivial⟩ (fun _ _ _=>rfl) trivial ?_
  refine cfq rfl rfl (fun _ _ _=>rfl) ?_
  refine cfq rfl rfl (fun _ _ _=>rfl) ?_
  refine cfq rfl rfl (fun _ _ _=>rfl) ?_
  obtain ⟨v10,hv10,h⟩:=bI h
  refine cf1 (d:=29) (v:= .list true 5 (v10.map zU8)) rfl [(28,[],_)] [] ⟨rfl,trivial⟩ trivial (fun fr X O hf=>?_) ?_
  ·refine aP (hsub:=sbF rfl hf) Tryz.call21 (LC hv10) rfl ?_
   exact aW rfl
  obtain ⟨v11,hv11,h⟩:=bI h
  refine cf1 (d:=30) (v:= .list true 5 (v11.map zU8)) rfl [(26,[],_),(29,[],_)] [] ⟨rfl,rfl,trivial⟩ trivial (fun fr X O hf=>?_) ?_
  ·refine aP (hsub:=sbF rfl hf) Tryz.call20 (LB hv11) rfl ?_
   exact aW rfl
  refine cfq rfl rfl (fun _ _ _=>rfl) ?_
  refine b6.nil ⟨by kernel_rfl,?_⟩
  obtain ⟨v12,hv12,h⟩:=bI h
  refine bR [2,2] Tryz.call19 (sB hv12) rfl rfl ?_
  refine aC.objs [2,2,0,0] rfl ?_
  refine aC.done [4,6] [4,6] rfl (aB (aA (rn 2 rfl ?_)))
  obtain ⟨v13,hv13,h⟩:=bI h
  refine bL [2,2] Tryz.call22 (o0 hv13) rfl rfl ?_
  rintro _ _ ⟨o14,rfl,rfl⟩
  refine aC.objs [2,2,1,0] rfl ?_
  refine aC.done [4,6] [4,6] rfl (aB (aA (rn 6 rfl ?_)))
  obtain ⟨v15,hv15,h⟩:=bI h
  refine bL [2,2,0,0] Tryz.call10 (w7 hv15) rfl rfl ?_
  rintro _ _ ⟨o16,o17,rfl,rfl⟩
  refine rn 5 rfl (aC.objs [1,0,2,2,0,0] rfl ?_)
  refine aC.done [4,6,7,8] [4,6] rfl (srd 3 rfl [4,6,7,8] [4,6] rfl (aB (aA (rn 2 rfl (rd (CW (b:=true) Tryz.underlying26 (.inr ⟨rfl,rfl⟩)) ?_)))))
  refine rn 1 rfl (aC.want ?_)
  refine rn 1 rfl (aC.want ?_)
  refine rn 1 rfl (rd (fP) ?_)
  refine rn 2 rfl (aC.done [4,5] [4] rfl (aJ ?_))
  cases h
  exact ⟨.inl rfl,_,[4,4,2,2,1,0],_,_,rfl,rfl,rfl,o5,o14,o8,o16,o17,m9,pm9,sm9,rfl,rfl⟩
def fY (x9:Int) (x10:Int) (x11:Int) (x12:Int) (x13:Int) (x14:Int) (x15:Int) (x16:List SThreshold) (x17:Int) (x18:Int) (x19:Int) (x20:Int) (x21:Int) (x22:List SEntry) (x23:Bool) (x24:Bool) (x25:Bool) (x26:List Int) (x27:Int) (x28:Int) (x29:Int) (x30:Int) (x31:Int) (x32:Int) (x33:Int) (x34:List SUse) (x35:Bool) (x36:Int) (x37:Bool) (x38:List Bool) (x39:Int) (x40:List SImage) (x41:List SContainer) (x43:List SOp) (x44:List ((List UInt8)×(List UInt8))):Option Bool:=
  bO (j9 (⟨(⟨(⟨x10,x11,x12⟩:V3 Int),(⟨x13,x14,x15⟩:V3 Int),x16,x17,x18,x19,x20⟩:SConfig),(⟨x21,x22,(⟨x23,x24,x25⟩:V3 Bool)⟩:SState),x26,(⟨x27,x28,x29⟩:V3 Int),(⟨x30,(⟨x31,x32,x33⟩:V3 Int),x34⟩:SSample),x35,x36,x37⟩:SAgent) (⟨(⟨x38⟩:Squeue),x39,x41,x40⟩:SWorld) (⟨x9⟩:SStore) (⟨x43⟩:SDisk) x44 (⟨[112],0,false,(⟨0,0,0⟩:V3 Int),(⟨0,0,0⟩:V3 Int),[120],0⟩:SPod)) fun v46=>
  bO (bif ((v46.2.1==0)&&((v46.1.length:Int)==1)) then (idx v46.1 0) else some default) fun v48=>
  some (((v46.2.1==0)&&((v46.1.length:Int)==1))&&(cG v48 (⟨1,[112],0,0⟩:SEvent)))
def jJ (x86:Int) (x87:Int) (q2:(List ((List UInt8)×(List UInt8)))→(List SContainer)→Int→Int→Int→Int→Int→(List SEntry)→Bool→Bool→Bool→(List Int)→Int→Int→Int→Int→Int→Int→Int→Int→(List SUse)→Bool→Int→Bool→Int→Int→Int→(List SThreshold)→Int→Int→Int→(List Bool)→Int→(List SImage)→(List SOp)→Int→Int→Option Bool) (v88:(List SEvent)×Int×(List ((List UInt8)×(List UInt8)))×SAgent×SWorld×SStore×SDisk) (x91:Int) (x92:List SContainer):Option Bool:=
  bif ((decide ((v88.1.length:Int)>0))||((decide (x87<x86))&&(v88.2.1 !=0)))||((decide (x87≥x86))&&(v88.2.1 !=6)) then
    some false
  else
    bO (gO v88.2.2.2.1 (⟨v88.2.2.2.2.1.queue,v88.2.2.2.2.1.retries,x92,v88.2.2.2.2.1.images⟩:SWorld) v88.2.2.2.2.2.1 v88.2.2.2.2.2.2 v88.2.2.1) fun v94=>
    bif v94.round !=x91 then none else
    q2 v88.2.2.1 x92 v88.2.2.2.2.2.1.version v88.2.2.2.1.c.capacity.a v88.2.2.2.1.c.capacity.b v88.2.2.2.1.c.dead v88.2.2.2.1.state.round v88.2.2.2.1.state.pods v88.2.2.2.1.state.on.a v88.2.2.2.1.state.on.b v88.2.2.2.1.state.on.c v88.2.2.2.1.since v88.2.2.2.1.calm.a v88.2.2.2.1.c.capacity.c v88.2.2.2.1.calm.b v88.2.2.2.1.calm.c v88.2.2.2.1.sample.time v88.2.2.2.1.sample.avail.a v88.2.2.2.1.sample.avail.b v88.2.2.2.1.sample.avail.c v88.2.2.2.1.sample.use v88.2.2.2.1.fresh v88.2.2.2.1.fuse v88.2.2.2.1.dead v88.2.2.2.1.c.allocatable.a v88.2.2.2.1.c.allocatable.b v88.2.2.2.1.c.allocatable.c v88.2.2.2.1.c.thresholds v88.2.2.2.1.c.period v88.2.2.2.1.c.retries v88.2.2.2.1.c.maxAge v88.2.2.2.2.1.queue.l v88.2.2.2.2.1.retries v88.2.2.2.2.1.images v88.2.2.2.2.2.2.open_ x86 (w64 (x87+1))
def dU (k290:Int→Int→Int→Int→Int→Int→Int→(List SThreshold)→Int→Int→Int→Int→Int→(List SEntry)→Bool→Bool→Bool→(List Int)→Int→Int→Int→Int→Int→Int→Int→(List SUse)→Bool→Int→Bool→(List Bool)→Int→(List SImage)→(List SContainer)→(List SOp)→(List ((List UInt8)×(List UInt8)))→Option Bool):Nat→(List ((List UInt8)×(List UInt8)))→(List SContainer)→Int→Int→Int→Int→Int→(List SEntry)→Bool→Bool→Bool→(List Int)→Int→Int→Int→Int→Int→Int→Int→Int→(List SUse)→Bool→Int→Bool→Int→Int→Int→(List SThreshold)→Int→Int→Int→(List Bool)→Int→(List SImage)→(List SOp)→Int→Int→Option Bool
  |0,_,_,_,_,_,_,_,_,_,_,_,_,_,_,_,_,_,_,_,_,_,_,_,_,_,_,_,_,_,_,_,_,_,_,_,_,_=>none
  |m2+1,x49,x51,x53,x54,x55,x56,x57,x58,x59,x60,x61,x62,x63,x64,x65,x66,x67,x68,x69,x70,x71,x72,x73,x74,x75,x76,x77,x78,x79,x80,x81,x82,x83,x84,x85,x86,x87=>
   bif decide (x87<(w64 (x86+3))) then
     bO (cR (⟨(⟨(⟨x54,x55,x64⟩:V3 Int),(⟨x75,x76,x77⟩:V3 Int),x78,x79,x80,x81,x56⟩:SConfig),(⟨x57,x58,(⟨x59,x60,x61⟩:V3 Bool)⟩:SState),x62,(⟨x63,x65,x66⟩:V3 Int),(⟨x67,(⟨x68,x69,x70⟩:V3 Int),x71⟩:SSample),x72,x73,x74⟩:SAgent) (⟨(⟨x82⟩:Squeue),x83,x51,x84⟩:SWorld) (⟨x53⟩:SStore) (⟨x85⟩:SDisk) x49) fun v88=>
     bif decide (x87≥x86) then
       jJ x86 x87 (dU k290 m2) v88 1099511627776 v88.2.2.2.2.1.boxes
     else
       jJ x86 x87 (dU k290 m2) v88 (w64 ((w64 ((w64 (1099511627776-x86))+x87))+1)) v88.2.2.2.2.1.boxes
   else
     k290 x53 x54 x55 x64 x75 x76 x77 x78 x79 x80 x81 x56 x57 x58 x59 x60 x61 x62 x63 x65 x66 x67 x68 x69 x70 x71 x72 x73 x74 x82 x83 x84 x51 x85 x49
def eW (a0:Int):Option Bool:=
  bO (rV) fun v1=>
  bif !v1 then none else
  bO (tL 5 (w64 (1099511627776-(w64 (a0.tmod 20))))) fun v2=>
  bif !v2.2.1 then none else
  dU fY aT v2.2.2.2.1 v2.2.2.2.2.1.boxes v2.2.2.2.2.2.2.version v2.2.2.2.2.2.1.c.capacity.a v2.2.2.2.2.2.1.c.capacity.b v2.2.2.2.2.2.1.c.dead v2.2.2.2.2.2.1.state.round v2.2.2.2.2.2.1.state.pods v2.2.2.2.2.2.1.state.on.a v2.2.2.2.2.2.1.state.on.b v2.2.2.2.2.2.1.state.on.c v2.2.2.2.2.2.1.since v2.2.2.2.2.2.1.calm.a v2.2.2.2.2.2.1.c.capacity.c v2.2.2.2.2.2.1.calm.b v2.2.2.2.2.2.1.calm.c v2.2.2.2.2.2.1.sample.time v2.2.2.2.2.2.1.sample.avail.a v2.2.2.2.2.2.1.sample.avail.b v2.2.2.2.2.2.1.sample.avail.c v2.2.2.2.2.2.1.sample.use v2.2.2.2.2.2.1.fresh v2.2.2.2.2.2.1.fuse v2.2.2.2.2.2.1.dead v2.2.2.2.2.2.1.c.allocatable.a v2.2.2.2.2.2.1.c.allocatable.b v2.2.2.2.2.2.1.c.allocatable.c v2.2.2.2.2.2.1.c.thresholds v2.2.2.2.2.2.1.c.period v2.2.2.2.2.2.1.c.retries v2.2.2.2.2.2.1.c.maxAge v2.2.2.2.2.1.queue.l v2.2.2.2.2.1.retries v2.2.2.2.2.1.images v2.2.2.1.open_ (w64 (a0.tmod 20)) 0
theorem DK {a0:Int} {r:Bool} (h:eW a0=some r):aI Tryz.prog 3 [.lit (.int .u8 a0)] (zB r):=by
  refine aK Tryz.func3 rfl rfl rfl rfl fun base=>?_
  unfold eW at h
  refine srd 1 rfl [0] [] rfl (aB (aB (aA ?_)))
  obtain ⟨v1,hv1,h⟩:=bI h
  refine aP Tryz.call5 (AD hv1) rfl ?_
  refine rn 1 rfl (aC.done [0,13] [] rfl (aD h rfl (fun h=>?_) (fun h=>?_)))
  ·cases h
  refine aE (srd 4 rfl [3] [] rfl (aB (aA (rn 2 rfl ?_))))
  obtain ⟨v2,hv2,h⟩:=bI h
  refine bL [] Tryz.call6 (BT hv2) rfl rfl ?_
  rintro _ _ ⟨o3,o4,o5,o6,o7,m8,pm8,sm8,rfl,rfl⟩
  refine rn 6 rfl (aC.objs [5,4,2,2,0,0] rfl ?_)
  refine aC.done [3,4,5] [4] rfl (aB (srd 2 rfl [3,4,24] [4] rfl (aD h rfl (fun h=>?_) (fun h=>?_))))
  ·cases h
  refine aE (aS (fun e=>∃(x9:_) (x10:_) (x11:_) (x12:_) (x13:_) (x14:_) (x15:_) (x16:_) (x17:_) (x18:_) (x19:_) (x20:_) (x21:_) (x22:_) (x23:_) (x24:_) (x25:_) (x26:_) (x27:_) (x28:_) (x29:_) (x30:_) (x31:_) (x32:_) (x33:_) (x34:_) (x35:_) (x36:_) (x37:_) (x38:_) (x39:_) (x40:_) (m42:Nat) (pm42 sm42:Slk 4) (x41:_) (x43:_) (o45:Nat) (x44:_),e=⟨[(4,[],.lptr 4 0)],[],[(4,[.list false 5 (v2.1.text.map zU8),.gptr o3 0,.gptr o5 0,.gptr o6 0])],[(o7,[.gptr o3 0,zI x9]),(o6,[zI x10,zI x11,zI x12,zI x13,zI x14,zI x15,.list false 102 (x16.map aL),zI x17,zI x18,zI x19,zI x20,.gptr o5 0,.gptr o7 0,zI x21,.list false 83 (x22.map aN),zB x23,zB x24,zB x25,.list false 3 (x26.map zI),zI x27,zI x28,zI x29,zI x30,zI x31,zI x32,zI x33,.list false 280 (x34.map bC),zB x35,zI x36,zB x37]),(o5,[.list false 4 (x38.map zB),zI x39,hdM m42 pm42 x41 sm42,.list false 150 (x40.map aQ)]),(m42,lob pm42 aG x41 sm42),(o3,[.gmap o45,.list true 69 (x43.map bG)]),(o45,aV keS (fun (x:List UInt8)=> .list false 5 (x.map zU8)) x44)],base⟩∧fY x9 x10 x11 x12 x13 x14 x15 x16 x17 x18 x19 x20 x21 x22 x23 x24 x25 x26 x27 x28 x29 x30 x31 x32 x33 x34 x35 x36 x37 x38 x39 x40 x41 x43 x44=some r) ?_ ?_)
  ·refine srd 1 rfl [3,4,6] [4] rfl (aF (aU (fun m2 e=>∃(o50:Nat) (x49:_) (m52:Nat) (pm52 sm52:Slk 4) (x51:_) (x53:_) (x54:_) (x55:_) (x56:_) (x57:_) (x58:_) (x59:_) (x60:_) (x61:_) (x62:_) (x63:_) (x64:_) (x65:_) (x66:_) (x67:_) (x68:_) (x69:_) (x70:_) (x71:_) (x72:_) (x73:_) (x74:_) (x75:_) (x76:_) (x77:_) (x78:_) (x79:_) (x80:_) (x81:_) (x82:_) (x83:_) (x84:_) (x85:_) (x86:_) (x87:_),e=⟨[(3,[],zI x86),(4,[],.lptr 4 0),(6,[],zI x87)],[],[(4,[.list false 5 (v2.1.text.map zU8),.gptr o3 0,.gptr o5 0,.gptr o6 0])],[(o7,[.gptr o3 0,zI x53]),(o6,[zI x54,zI x55,zI x64,zI x75,zI x76,zI x77,.list false 102 (x78.map aL),zI x79,zI x80,zI x81,zI x56,.gptr o5 0,.gptr o7 0,zI x57,.list false 83 (x58.map aN),zB x59,zB x60,zB x61,.list false 3 (x62.map zI),zI x63,zI x65,zI x66,zI x67,zI x68,zI x69,zI x70,.list false 280 (x71.map bC),zB x72,zI x73,zB x74]),(o5,[.list false 4 (x82.map zB),zI x83,hdM m52 pm52 x51 sm52,.list false 150 (x84.map aQ)]),(m52,lob pm52 aG x51 sm52),(o3,[.gmap o50,.list true 69 (x85.map bG)]),(o50,aV keS (fun (x:List UInt8)=> .list false 5 (x.map zU8)) x49)],base⟩∧dU (fY) m2 x49 x51 x53 x54 x55 x56 x57 x58 x59 x60 x61 x62 x63 x64 x65 x66 x67 x68 x69 x70 x71 x72 x73 x74 x75 x76 x77 x78 x79 x80 x81 x82 x83 x84 x85 x86 x87=some r) aT ⟨_,_,_,_,_,_,_,_,_,_,_,_,_,_,_,_,_,_,_,_,_,_,_,_,_,_,_,_,_,_,_,_,_,_,_,_,_,_,_,_,_,rfl,h⟩ ?_ ?_))
   ·rintro m2 _ ⟨o50,x49,m52,pm52,sm52,x51,x53,x54,x55,x56,x57,x58,x59,x60,x61,x62,x63,x64,x65,x66,x67,x68,x69,x70,x71,x72,x73,x74,x75,x76,x77,x78,x79,x80,x81,x82,x83,x84,x85,x86,x87,rfl,h⟩
    rw [dU] at h
    refine aB (srd 4 rfl [3,4,6,28] [4] rfl (aD h rfl (fun h=>?_) (fun h=>?_)))
    ·refine aE (aB (aF (aB (aA (rn 2 rfl ?_)))))
     obtain ⟨v88,hv88,h⟩:=bI h
     refine bL [1,1,1,0,0,0] Tryz.call7 (cX hv88) rfl rfl ?_
     rintro _ _ ⟨o89,m90,pm90,sm90,rfl,rfl⟩
     refine rn 5 rfl (aC.objs [4,1,1,1,1,0] rfl ?_)
     refine aC.done [3,4,6,7,8] [4] rfl (srd 6 rfl [3,4,6,7,8,9] [4] rfl (aS (fun e=>∃(x91:_) (m93:Nat) (pm93 sm93:Slk 4) (x92:_),e=⟨[(3,[],zI x86),(4,[],.lptr 4 0),(6,[],zI x87),(7,[],.list false 45 (v88.1.map bB)),(8,[],zI v88.2.1),(9,[],zI x91)],[],[(4,[.list false 5 (v2.1.text.map zU8),.gptr o3 0,.gptr o5 0,.gptr o6 0])],[(o7,[.gptr o3 0,zI v88.2.2.2.2.2.1.version]),(o6,[zI v88.2.2.2.1.c.capacity.a,zI v88.2.2.2.1.c.capacity.b,zI v88.2.2.2.1.c.capacity.c,zI v88.2.2.2.1.c.allocatable.a,zI v88.2.2.2.1.c.allocatable.b,zI v88.2.2.2.1.c.allocatable.c,.list false 102 (v88.2.2.2.1.c.thresholds.map aL),zI v88.2.2.2.1.c.period,zI v88.2.2.2.1.c.retries,zI v88.2.2.2.1.c.maxAge,zI v88.2.2.2.1.c.dead,.gptr o5 0,.gptr o7 0,zI v88.2.2.2.1.state.round,.list false 83 (v88.2.2.2.1.state.pods.map aN),zB v88.2.2.2.1.state.on.a,zB v88.2.2.2.1.state.on.b,zB v88.2.2.2.1.state.on.c,.list false 3 (v88.2.2.2.1.since.map zI),zI v88.2.2.2.1.calm.a,zI v88.2.2.2.1.calm.b,zI v88.2.2.2.1.calm.c,zI v88.2.2.2.1.sample.time,zI v88.2.2.2.1.sample.avail.a,zI v88.2.2.2.1.sample.avail.b,zI v88.2.2.2.1.sample.avail.c,.list false 280 (v88.2.2.2.1.sample.use.map bC),zB v88.2.2.2.1.fresh,zI v88.2.2.2.1.fuse,zB v88.2.2.2.1.dead]),(o5,[.list false 4 (v88.2.2.2.2.1.queue.l.map zB),zI v88.2.2.2.2.1.retries,hdM m93 pm93 x92 sm93,.list false 150 (v88.2.2.2.2.1.images.map aQ)]),(m93,lob pm93 aG x92 sm93),(o3,[.gmap o89,.list true 69 (v88.2.2.2.2.2.2.open_.map bG)]),(o89,aV keS (fun (x:List UInt8)=> .list false 5 (x.map zU8)) v88.2.2.1)],base⟩∧jJ x86 x87 (dU (fY) m2) v88 x91 x92=some r) ?_ ?_))
     ·refine srd 3 rfl [3,4,6,7,8,9,44] [4] rfl (aD h rfl (fun h=>?_) (fun h=>?_))
      ·refine aA (rn 1 rfl (aC.done [3,4,6,7,8,9] [4] rfl ?_))
       exact ⟨_,_,_,_,_,rfl,h⟩
      refine aR [3,4,6,7,8,9] [4] rfl (aE ?_)
      exact ⟨_,_,_,_,_,rfl,h⟩
     rintro _ ⟨x91,m93,pm93,sm93,x92,rfl,h⟩
     unfold jJ at h
     refine aB (aA (rh 22 [v88.1.length] [] rfl ⟨List.length_map ..,trivial⟩ (nA 66 h rfl (fun h=>?_) (fun h=>?_))))
     ·refine aX ?_
      refine aX ?_
      refine aX ?_
      refine aX ?_
      refine aX ?_
      refine aX ?_
      refine rd (fP) ?_
      refine aC.done [3,4,6,73] [4] rfl (bD rfl (by decide) ?_)
      refine aB (aA (rn 1 rfl (aC.objs [] rfl ?_)))
      refine aC.done [2] [] rfl ?_
      cases h;exact aJ ⟨.inl rfl,rfl,rfl⟩
     refine aC.want ?_
     refine rn 1 rfl (aC.want ?_)
     refine rn 1 rfl (aC.want ?_)
     refine iB [3,4,6,9,66,68] rfl ?_
     refine aC.keep [3,4,6,9,66,68] [4] rfl ?_
     obtain ⟨v94,hv94,h⟩:=bI h
     refine bR [1,1,1,0,0,0] Tryz.call8 (l3 hv94) rfl rfl ?_
     refine aC.want ?_
     refine rn 1 rfl (aC.want ?_)
     refine rn 1 rfl (aC.want ?_)
     refine rn 1 rfl (rd (fP) ?_)
     refine aC.objs [3,0,0,0,0,0] rfl ?_
     refine aC.done [3,4,6,73] [4] rfl (aD h rfl (fun h=>?_) (fun h=>?_))
     ·cases h
     refine aE ?_
     refine aA (rn 3 rfl (aC.done [3,4,6] [4] rfl ?_))
     exact ⟨_,_,_,_,_,_,_,_,_,_,_,_,_,_,_,_,_,_,_,_,_,_,_,_,_,_,_,_,_,_,_,_,_,_,_,_,_,_,_,_,_,rfl,h⟩
    refine aR [4] [4] rfl (CWp.exit ?_)
    exact ⟨_,_,_,_,_,_,_,_,_,_,_,_,_,_,_,_,_,_,_,_,_,_,_,_,_,_,_,_,_,_,_,_,_,_,_,_,_,_,_,rfl,h⟩
   rintro _ ⟨_,_,_,_,_,_,_,_,_,_,_,_,_,_,_,_,_,_,_,_,_,_,_,_,_,_,_,_,_,_,_,_,_,_,_,_,_,_,_,_,_,_,h⟩
   rw [dU] at h;cases h
  rintro _ ⟨x9,x10,x11,x12,x13,x14,x15,x16,x17,x18,x19,x20,x21,x22,x23,x24,x25,x26,x27,x28,x29,x30,x31,x32,x33,x34,x35,x36,x37,x38,x39,x40,m42,pm42,sm42,x41,x43,o45,x44,rfl,h⟩
  unfold fY at h
  refine aB (aA (rn 3 rfl ?_))
  obtain ⟨v46,hv46,h⟩:=bI h
  refine bL [1,1,1,0,0,0] Tryz.call9 (sT hv46) rfl rfl ?_
  rintro _ _ ⟨o47,rfl,rfl⟩
  refine rn 5 rfl (aC.objs [] rfl ?_)
  refine aC.done [10,11] [] rfl (aB (aA ?_))
  obtain ⟨v48,hv48,h⟩:=bI h
  refine rh 9 [v46.1.length] [] rfl ⟨List.length_map ..,trivial⟩ (rdg 88 true [] (fun ht=>rIx (gd hv48 (ht.1 _ rfl))) ?_)
  refine rn 2 rfl (rdg 88 true [] (fun _=>rEq (a:=v48) (b:=(⟨1,[112],0,0⟩:SEvent)) oX) ?_)
  refine rn 2 rfl (aC.done [2] [] rfl ?_)
  cases h;exact aJ ⟨.inl rfl,rfl,rfl⟩
def oQ :Option Bool:=
  some true
def oR (a0:SState) (k290:Option Bool):Nat→Option Bool
  |0=>none
  |_m2+1=>
   bif decide (0<(a0.pods.length:Int)) then none else
   k290
def y2 (a0:SState) (a1:SState):Option Bool:=
  bif ((a0.round !=a1.round)||(!(PP a0.on a1.on)))||((a0.pods.length:Int) !=(a1.pods.length:Int)) then none else
  oR a0 oQ aT
theorem JC {a0:SState} {a1:SState} {r:Bool} (h:y2 a0 a1=some r):aI Tryz.prog 11 [e9 a0,e9 a1] (zB r):=by
  refine aK Tryz.func11 rfl rfl rfl rfl fun base=>?_
  unfold y2 at h
  refine srd 3 rfl [2,3] [2,3] rfl (aB (aB (aA (rn 10 rfl (rdg 11 false [] (fun _=>rNe (a:=a0.on) (b:=a1.on) SW) ?_)))))
  refine rh 10 [a0.pods.length,a1.pods.length] [] rfl ⟨List.length_map ..,List.length_map ..,trivial⟩ (aC.done [2,3,26] [2,3] rfl (aD h rfl (fun h=>?_) (fun h=>?_)))
  ·cases h
  refine aE (aS (fun e=>e=⟨[],[],[],[],base⟩∧oQ=some r) ?_ ?_)
  ·refine srd 1 rfl [2,3,5] [2,3] rfl (aF (aU (fun m2 e=>e=⟨[(2,[],.lptr 2 0),(3,[],.lptr 3 0),(5,[],zI 0)],[],[(2,[zI a0.round,.list false 83 (a0.pods.map aN),zB a0.on.a,zB a0.on.b,zB a0.on.c]),(3,[zI a1.round,.list false 83 (a1.pods.map aN),zB a1.on.a,zB a1.on.b,zB a1.on.c])],[],base⟩∧oR a0 (oQ) m2=some r) aT ⟨rfl,h⟩ ?_ ?_))
   ·rintro m2 _ ⟨rfl,h⟩
    rw [oR] at h
    refine aB (aB (aA (rh 5 [a0.pods.length] [] rfl ⟨List.length_map ..,trivial⟩ (aC.done [2,3,5,31] [2,3] rfl (aD h rfl (fun h=>?_) (fun h=>?_))))))
    ·cases h
    refine aR [] [] rfl (CWp.exit ?_)
    exact ⟨rfl,h⟩
   rintro _ ⟨_,h⟩
   rw [oR] at h;cases h
  rintro _ ⟨rfl,h⟩
  unfold oQ at h
  refine srd 1 rfl [4] [] rfl ?_
  cases h;exact aJ ⟨.inl rfl,rfl,rfl⟩
def fZ (v2:SNode×Bool×SDisk×(List ((List UInt8)×(List UInt8)))×SWorld×SAgent×SStore) (x9:Int) (x10:Int) (x11:Int) (x12:Int) (x13:Int) (x14:Int) (x15:Int) (x16:Int) (x17:List SThreshold) (x18:Int) (x19:Int) (x20:Int) (x21:Int) (x22:Int) (x23:List SEntry) (x24:Bool) (x25:Bool) (x26:Bool) (x27:List Int) (x28:Int) (x29:Int) (x30:Int) (x31:Int) (x32:Int) (x33:Int) (x34:Int) (x35:List SUse) (x36:Bool) (x37:Int) (x38:Bool) (x39:List Bool) (x40:Int) (x41:List SImage) (x42:List SContainer) (x44:List SOp) (x45:List ((List UInt8)×(List UInt8))):Option Bool:=
  bO (cR (⟨(⟨(⟨x11,x12,x13⟩:V3 Int),(⟨x14,x15,x16⟩:V3 Int),x17,x18,x19,x20,x21⟩:SConfig),(⟨x22,x23,(⟨x24,x25,x26⟩:V3 Bool)⟩:SState),x27,(⟨x28,x29,x30⟩:V3 Int),(⟨x31,(⟨x32,x33,x34⟩:V3 Int),x35⟩:SSample),x36,x37,x38⟩:SAgent) (⟨(⟨x39⟩:Squeue),x40,x42,x41⟩:SWorld) (⟨x10⟩:SStore) (⟨x44⟩:SDisk) x45) fun v47=>
  bO (cR v47.2.2.2.1 v47.2.2.2.2.1 v47.2.2.2.2.2.1 v47.2.2.2.2.2.2 v47.2.2.1) fun v50=>
  bif (((v47.2.1 !=6)||(v50.2.1 !=7))||(decide ((v47.1.length:Int)>0)))||(decide ((v50.1.length:Int)>0)) then none else
  bO (q6 v2.1.text v50.2.2.2.2.2.2 v50.2.2.1 v50.2.2.2.2.1) fun v53=>
  bif v53.1==0 then
    bO (gO v53.2.1 v50.2.2.2.2.1 v53.2.2 v50.2.2.2.2.2.2 v50.2.2.1) fun v56=>
    bO (y2 v56 (⟨w64 (7+x9),([]:List SEntry),(⟨false,false,false⟩:V3 Bool)⟩:SState)) fun v57=>
    some v57
  else
    some false
def cH (a0:Int) (k290:Int→Int→Int→Int→Int→Int→Int→Int→(List SThreshold)→Int→Int→Int→Int→Int→(List SEntry)→Bool→Bool→Bool→(List Int)→Int→Int→Int→Int→Int→Int→Int→(List SUse)→Bool→Int→Bool→(List Bool)→Int→(List SImage)→(List SContainer)→(List SOp)→(List ((List UInt8)×(List UInt8)))→Option Bool):Nat→(List ((List UInt8)×(List UInt8)))→(List SContainer)→Int→Int→Int→Int→Int→(List SEntry)→Bool→Bool→Bool→(List Int)→Int→Int→Int→Int→Int→Int→Int→Int→(List SUse)→Bool→Int→Bool→Int→Int→Int→(List SThreshold)→Int→Int→Int→(List Bool)→Int→(List SImage)→(List SOp)→Int→Option Bool
  |0,_,_,_,_,_,_,_,_,_,_,_,_,_,_,_,_,_,_,_,_,_,_,_,_,_,_,_,_,_,_,_,_,_,_,_,_=>none
  |m2+1,x56,x58,x60,x61,x62,x63,x64,x65,x66,x67,x68,x69,x70,x71,x72,x73,x74,x75,x76,x77,x78,x79,x80,x81,x82,x83,x84,x85,x86,x87,x88,x89,x90,x91,x92,x93=>
   bif decide (x93<(w64 (a0.tmod 10))) then
     bO (cR (⟨(⟨(⟨x61,x62,x71⟩:V3 Int),(⟨x82,x83,x84⟩:V3 Int),x85,x86,x87,x88,x63⟩:SConfig),(⟨x64,x65,(⟨x66,x67,x68⟩:V3 Bool)⟩:SState),x69,(⟨x70,x72,x73⟩:V3 Int),(⟨x74,(⟨x75,x76,x77⟩:V3 Int),x78⟩:SSample),x79,x80,x81⟩:SAgent) (⟨(⟨x89⟩:Squeue),x90,x58,x91⟩:SWorld) (⟨x60⟩:SStore) (⟨x92⟩:SDisk) x56) fun v94=>
     bif v94.2.1 !=0 then none else
     (cH a0 k290 m2) v94.2.2.1 v94.2.2.2.2.1.boxes v94.2.2.2.2.2.1.version v94.2.2.2.1.c.capacity.a v94.2.2.2.1.c.capacity.b v94.2.2.2.1.c.dead v94.2.2.2.1.state.round v94.2.2.2.1.state.pods v94.2.2.2.1.state.on.a v94.2.2.2.1.state.on.b v94.2.2.2.1.state.on.c v94.2.2.2.1.since v94.2.2.2.1.calm.a v94.2.2.2.1.c.capacity.c v94.2.2.2.1.calm.b v94.2.2.2.1.calm.c v94.2.2.2.1.sample.time v94.2.2.2.1.sample.avail.a v94.2.2.2.1.sample.avail.b v94.2.2.2.1.sample.avail.c v94.2.2.2.1.sample.use v94.2.2.2.1.fresh v94.2.2.2.1.fuse v94.2.2.2.1.dead v94.2.2.2.1.c.allocatable.a v94.2.2.2.1.c.allocatable.b v94.2.2.2.1.c.allocatable.c v94.2.2.2.1.c.thresholds v94.2.2.2.1.c.period v94.2.2.2.1.c.retries v94.2.2.2.1.c.maxAge v94.2.2.2.2.1.queue.l v94.2.2.2.2.1.retries v94.2.2.2.2.1.images v94.2.2.2.2.2.2.open_ (w64 (x93+1))
   else
     k290 (w64 (a0.tmod 10)) x60 x61 x62 x71 x82 x83 x84 x85 x86 x87 x88 x63 x64 x65 x66 x67 x68 x69 x70 x72 x73 x74 x75 x76 x77 x78 x79 x80 x81 x89 x90 x91 x58 x92 x56
def dJ (a0:Int):Option Bool:=
  bO (rV) fun v1=>
  bif !v1 then none else
  bO (tL (w64 (4294967295-(w64 (a0.tmod 10)))) 7) fun v2=>
  bif !v2.2.1 then none else
  cH a0 (fZ v2) aT v2.2.2.2.1 v2.2.2.2.2.1.boxes v2.2.2.2.2.2.2.version v2.2.2.2.2.2.1.c.capacity.a v2.2.2.2.2.2.1.c.capacity.b v2.2.2.2.2.2.1.c.dead v2.2.2.2.2.2.1.state.round v2.2.2.2.2.2.1.state.pods v2.2.2.2.2.2.1.state.on.a v2.2.2.2.2.2.1.state.on.b v2.2.2.2.2.2.1.state.on.c v2.2.2.2.2.2.1.since v2.2.2.2.2.2.1.calm.a v2.2.2.2.2.2.1.c.capacity.c v2.2.2.2.2.2.1.calm.b v2.2.2.2.2.2.1.calm.c v2.2.2.2.2.2.1.sample.time v2.2.2.2.2.2.1.sample.avail.a v2.2.2.2.2.2.1.sample.avail.b v2.2.2.2.2.2.1.sample.avail.c v2.2.2.2.2.2.1.sample.use v2.2.2.2.2.2.1.fresh v2.2.2.2.2.2.1.fuse v2.2.2.2.2.2.1.dead v2.2.2.2.2.2.1.c.allocatable.a v2.2.2.2.2.2.1.c.allocatable.b v2.2.2.2.2.2.1.c.allocatable.c v2.2.2.2.2.2.1.c.thresholds v2.2.2.2.2.2.1.c.period v2.2.2.2.2.2.1.c.retries v2.2.2.2.2.2.1.c.maxAge v2.2.2.2.2.1.queue.l v2.2.2.2.2.1.retries v2.2.2.2.2.1.images v2.2.2.1.open_ 0
theorem zU {a0:Int} {r:Bool} (h:dJ a0=some r):aI Tryz.prog 4 [.lit (.int .u8 a0)] (zB r):=by
  refine aK Tryz.func4 rfl rfl rfl rfl fun base=>?_
  unfold dJ at h
  refine srd 1 rfl [0] [] rfl (aB (aB (aA ?_)))
  obtain ⟨v1,hv1,h⟩:=bI h
  refine aP Tryz.call5 (AD hv1) rfl ?_
  refine rn 1 rfl (aC.done [0,16] [] rfl (aD h rfl (fun h=>?_) (fun h=>?_)))
  ·cases h
  refine aE (srd 4 rfl [3] [] rfl (aB (aA (rn 2 rfl ?_))))
  obtain ⟨v2,hv2,h⟩:=bI h
  refine bL [] Tryz.call6 (BT hv2) rfl rfl ?_
  rintro _ _ ⟨o3,o4,o5,o6,o7,m8,pm8,sm8,rfl,rfl⟩
  refine rn 6 rfl (aC.objs [5,4,2,2,0,0] rfl ?_)
  refine aC.done [3,4,5] [4] rfl (aB (srd 2 rfl [3,4,27] [4] rfl (aD h rfl (fun h=>?_) (fun h=>?_))))
  ·cases h
  refine aE (aS (fun e=>∃(x9:_) (x10:_) (x11:_) (x12:_) (x13:_) (x14:_) (x15:_) (x16:_) (x17:_) (x18:_) (x19:_) (x20:_) (x21:_) (x22:_) (x23:_) (x24:_) (x25:_) (x26:_) (x27:_) (x28:_) (x29:_) (x30:_) (x31:_) (x32:_) (x33:_) (x34:_) (x35:_) (x36:_) (x37:_) (x38:_) (x39:_) (x40:_) (x41:_) (m43:Nat) (pm43 sm43:Slk 4) (x42:_) (x44:_) (o46:Nat) (x45:_),e=⟨[(3,[],zI x9),(4,[],.lptr 4 0)],[],[(4,[.list false 5 (v2.1.text.map zU8),.gptr o3 0,.gptr o5 0,.gptr o6 0])],[(o7,[.gptr o3 0,zI x10]),(o6,[zI x11,zI x12,zI x13,zI x14,zI x15,zI x16,.list false 102 (x17.map aL),zI x18,zI x19,zI x20,zI x21,.gptr o5 0,.gptr o7 0,zI x22,.list false 83 (x23.map aN),zB x24,zB x25,zB x26,.list false 3 (x27.map zI),zI x28,zI x29,zI x30,zI x31,zI x32,zI x33,zI x34,.list false 280 (x35.map bC),zB x36,zI x37,zB x38]),(o5,[.list false 4 (x39.map zB),zI x40,hdM m43 pm43 x42 sm43,.list false 150 (x41.map aQ)]),(m43,lob pm43 aG x42 sm43),(o3,[.gmap o46,.list true 69 (x44.map bG)]),(o46,aV keS (fun (x:List UInt8)=> .list false 5 (x.map zU8)) x45)],base⟩∧fZ v2 x9 x10 x11 x12 x13 x14 x15 x16 x17 x18 x19 x20 x21 x22 x23 x24 x25 x26 x27 x28 x29 x30 x31 x32 x33 x34 x35 x36 x37 x38 x39 x40 x41 x42 x44 x45=some r) ?_ ?_)
  ·refine srd 1 rfl [3,4,6] [4] rfl (aF (aU (fun m2 e=>∃(o57:Nat) (x56:_) (m59:Nat) (pm59 sm59:Slk 4) (x58:_) (x60:_) (x61:_) (x62:_) (x63:_) (x64:_) (x65:_) (x66:_) (x67:_) (x68:_) (x69:_) (x70:_) (x71:_) (x72:_) (x73:_) (x74:_) (x75:_) (x76:_) (x77:_) (x78:_) (x79:_) (x80:_) (x81:_) (x82:_) (x83:_) (x84:_) (x85:_) (x86:_) (x87:_) (x88:_) (x89:_) (x90:_) (x91:_) (x92:_) (x93:_),e=⟨[(3,[],zI (w64 (a0.tmod 10))),(4,[],.lptr 4 0),(6,[],zI x93)],[],[(4,[.list false 5 (v2.1.text.map zU8),.gptr o3 0,.gptr o5 0,.gptr o6 0])],[(o7,[.gptr o3 0,zI x60]),(o6,[zI x61,zI x62,zI x71,zI x82,zI x83,zI x84,.list false 102 (x85.map aL),zI x86,zI x87,zI x88,zI x63,.gptr o5 0,.gptr o7 0,zI x64,.list false 83 (x65.map aN),zB x66,zB x67,zB x68,.list false 3 (x69.map zI),zI x70,zI x72,zI x73,zI x74,zI x75,zI x76,zI x77,.list false 280 (x78.map bC),zB x79,zI x80,zB x81]),(o5,[.list false 4 (x89.map zB),zI x90,hdM m59 pm59 x58 sm59,.list false 150 (x91.map aQ)]),(m59,lob pm59 aG x58 sm59),(o3,[.gmap o57,.list true 69 (x92.map bG)]),(o57,aV keS (fun (x:List UInt8)=> .list false 5 (x.map zU8)) x56)],base⟩∧cH a0 (fZ v2) m2 x56 x58 x60 x61 x62 x63 x64 x65 x66 x67 x68 x69 x70 x71 x72 x73 x74 x75 x76 x77 x78 x79 x80 x81 x82 x83 x84 x85 x86 x87 x88 x89 x90 x91 x92 x93=some r) aT ⟨_,_,_,_,_,_,_,_,_,_,_,_,_,_,_,_,_,_,_,_,_,_,_,_,_,_,_,_,_,_,_,_,_,_,_,_,_,_,_,_,rfl,h⟩ ?_ ?_))
   ·rintro m2 _ ⟨o57,x56,m59,pm59,sm59,x58,x60,x61,x62,x63,x64,x65,x66,x67,x68,x69,x70,x71,x72,x73,x74,x75,x76,x77,x78,x79,x80,x81,x82,x83,x84,x85,x86,x87,x88,x89,x90,x91,x92,x93,rfl,h⟩
    rw [cH] at h
    refine aB (srd 3 rfl [3,4,6,30] [4] rfl (aD h rfl (fun h=>?_) (fun h=>?_)))
    ·refine aE (aB (aF (aB (aA (rn 2 rfl ?_)))))
     obtain ⟨v94,hv94,h⟩:=bI h
     refine bL [1,1,1,0,0,0] Tryz.call7 (cX hv94) rfl rfl ?_
     rintro _ _ ⟨o95,m96,pm96,sm96,rfl,rfl⟩
     refine rn 5 rfl (aC.objs [4,1,1,1,1,0] rfl ?_)
     refine aC.done [3,4,6,8] [4] rfl (srd 2 rfl [3,4,6,40] [4] rfl (aD h rfl (fun h=>?_) (fun h=>?_)))
     ·cases h
     refine aE ?_
     refine aA (rn 3 rfl (aC.done [3,4,6] [4] rfl ?_))
     exact ⟨_,_,_,_,_,_,_,_,_,_,_,_,_,_,_,_,_,_,_,_,_,_,_,_,_,_,_,_,_,_,_,_,_,_,_,_,_,_,_,_,rfl,h⟩
    refine aR [3,4] [4] rfl (CWp.exit ?_)
    exact ⟨_,_,_,_,_,_,_,_,_,_,_,_,_,_,_,_,_,_,_,_,_,_,_,_,_,_,_,_,_,_,_,_,_,_,_,_,_,_,_,_,rfl,h⟩
   rintro _ ⟨_,_,_,_,_,_,_,_,_,_,_,_,_,_,_,_,_,_,_,_,_,_,_,_,_,_,_,_,_,_,_,_,_,_,_,_,_,_,_,_,_,h⟩
   rw [cH] at h;cases h
  rintro _ ⟨x9,x10,x11,x12,x13,x14,x15,x16,x17,x18,x19,x20,x21,x22,x23,x24,x25,x26,x27,x28,x29,x30,x31,x32,x33,x34,x35,x36,x37,x38,x39,x40,x41,m43,pm43,sm43,x42,x44,o46,x45,rfl,h⟩
  unfold fZ at h
  refine aB (aA (rn 2 rfl ?_))
  obtain ⟨v47,hv47,h⟩:=bI h
  refine bL [1,1,1,0,0,0] Tryz.call7 (cX hv47) rfl rfl ?_
  rintro _ _ ⟨o48,m49,pm49,sm49,rfl,rfl⟩
  refine rn 5 rfl (aC.objs [4,1,1,1,1,0] rfl ?_)
  refine aC.done [3,4,9,10] [4] rfl (aB (aA (rn 2 rfl ?_)))
  obtain ⟨v50,hv50,h⟩:=bI h
  refine bL [1,1,1,0,0,0] Tryz.call7 (cX hv50) rfl rfl ?_
  rintro _ _ ⟨o51,m52,pm52,sm52,rfl,rfl⟩
  refine rn 5 rfl (aC.objs [4,1,1,1,1,0] rfl ?_)
  refine aC.done [3,4,9,10,11,12] [4] rfl (aB (aB (aA (rh 16 [v47.1.length,v50.1.length] [] rfl ⟨List.length_map ..,List.length_map ..,trivial⟩ (aC.done [3,4,68] [4] rfl (aD h rfl (fun h=>?_) (fun h=>?_)))))))
  ·cases h
  refine aE (aB (aA (rn 6 rfl ?_)))
  obtain ⟨v53,hv53,h⟩:=bI h
  refine bL [4,4,2,2] Tryz.call10 (w7 hv53) rfl rfl ?_
  rintro _ _ ⟨o54,o55,rfl,rfl⟩
  refine rn 5 rfl (aC.objs [1,0,2,2,0,0] rfl ?_)
  refine aC.done [3,13,14] [] rfl (aB (aA (rn 1 rfl (rd (CW (b:=true) Tryz.underlying26 (.inr ⟨rfl,rfl⟩)) ?_))))
  refine rn 1 rfl (aC.want ?_)
  refine rn 1 rfl (aC.want ?_)
  refine rn 1 rfl (rd (fP) ?_)
  refine rn 1 rfl (nA 85 h rfl (fun h=>?_) (fun h=>?_))
  ·refine aC.want ?_
   refine rn 1 rfl (aC.want ?_)
   obtain ⟨v56,hv56,h⟩:=bI h
   refine bR [1,1,1,0,0,0] Tryz.call8 (l3 hv56) rfl rfl ?_
   refine aC.want ?_
   refine rn 1 rfl (aC.want ?_)
   refine rn 1 rfl (aC.want ?_)
   refine rn 1 rfl (aC.want ?_)
   obtain ⟨v57,hv57,h⟩:=bI h
   refine aP Tryz.call11 (JC hv57) rfl ?_
   refine rd (fP) ?_
   refine rn 1 rfl (aC.objs [] rfl ?_)
   refine aC.done [2] [] rfl ?_
   cases h;exact aJ ⟨.inl rfl,rfl,rfl⟩
  refine aX ?_
  refine aX ?_
  refine aX ?_
  refine aX ?_
  refine aX ?_
  refine aX ?_
  refine rd (fP) ?_
  refine rn 1 rfl (aC.objs [] rfl ?_)
  refine aC.done [2] [] rfl ?_
  cases h;exact aJ ⟨.inl rfl,rfl,rfl⟩
end
section
end
section
open Go.RowKit
set_option maxRecDepth 100000
theorem TH {a b:Int} (h:a.tmod 20=b.tmod 20):eW a=eW b:=by unfold eW;rw [h]
theorem VU {a b:Int} (h:a.tmod 10=b.tmod 10):@cH a=@cH b:=by
  funext k m
  induction m with
  |zero=>rfl
  |succ m ih=>simp only [cH,h,ih]
theorem UE {a b:Int} (h:a.tmod 10=b.tmod 10):dJ a=dJ b:=by unfold dJ;rw [h,VU h]
theorem TG :((List.range 20).all fun k=>eW (k:Int)==some true)=true:=by kernel_rfl
theorem UD :((List.range 10).all fun k=>dJ (k:Int)==some true)=true:=by kernel_rfl
theorem VA (n:Nat):eW (n:Int)=some true:=by
  have h:=List.all_eq_true.1 TG (n%20) (List.mem_range.2 (Nat.mod_lt _ (by decide)))
  rw [TH (b:=((n%20:Nat):Int)) (by show ((n%20:Nat):Int)=(((n%20)%20:Nat):Int);rw [Nat.mod_mod])]
  exact eq_of_beq h
theorem VV (n:Nat):dJ (n:Int)=some true:=by
  have h:=List.all_eq_true.1 UD (n%10) (List.mem_range.2 (Nat.mod_lt _ (by decide)))
  rw [UE (b:=((n%10:Nat):Int)) (by show ((n%10:Nat):Int)=(((n%10)%10:Nat):Int);rw [Nat.mod_mod])]
  exact eq_of_beq h
theorem KP (n:Nat) (_hn:n≤255) (M:Nat→Option (List AV)):bW Tryz.prog 3 [.lit (.int .u8 (n:Int))] M (fun r M'=>r= .lit (.bool true)∧M=M'):=
  (DK (VA n)).all M
theorem E4 (n:Nat) (_hn:n≤255) (M:Nat→Option (List AV)):bW Tryz.prog 4 [.lit (.int .u8 (n:Int))] M (fun r M'=>r= .lit (.bool true)∧M=M'):=
  (zU (VV n)).all M
end
end Go.Proofs.YtoolgdcjfkjlnaaGreatDoor
