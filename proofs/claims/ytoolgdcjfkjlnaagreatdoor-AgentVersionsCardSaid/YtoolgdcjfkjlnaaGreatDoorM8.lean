/- aGreatDoorM8. -/
import Derived.Test.YtoolgdcjfkjlnaaGreatDoorM7
import Derived.Test.YtoolgdcjfkjlnaaGreatDoorPLw
import Derived.RangeFuncBox
import Derived.RangeFuncLeaves
import Derived.RangeFuncKeeps
import Derived.RangeFuncMany
import Derived.RangeFuncOwn
import Derived.Shelf.Abstract
import Derived.WalkKit
import Derived.OwnWalkIn
import Derived.TacticsInMore
import Derived.LoopNIn
import Derived.LoopIn
import Derived.Test.YtoolgdcjfkjlnaaGreatDoorM6
import Derived.Test.YtoolgdcjfkjlnaaGreatDoorM4
namespace Go.Proofs.YtoolgdcjfkjlnaaGreatDoor
section
open Go.RowKit
section
variable {P:Program} {n:Nat} {ops:Array Oper} {rest:List Oper} {o:Oper} {Q:Es→Prop} {d:Nat}
theorem V1 {fr:Fr} {loc:List (Nat×List AV)} {objs:Ob} {base:Nat→Option (List AV)} {f:FuncId} {c:Call} {x:Operand} {v:AV} {A B:Ob} {R:AV→Ob→Prop} (sel:List Nat) (he:i8 P f) (h:aO P f [.lit (.slice none 0 0),v] A R) (hs:qU sel objs=some (A,B)) (hx:evE fr [] x=v)
    (g:∀r outs,R r outs→aC P n ops rest ⟨(d,[],r)::fr,[],loc,outs++B,base⟩ Q)
    (hC:bH ops fr o=some []:=by rfl) (hd:o.dst=some d:=by rfl) (hn:Nat.blt d n=true:=by rfl) (ho:o.op= .call c:=by rfl) (hc:c.callee= .value (.func f):=by rfl) (hca:c.args=#[.const (.slice none 0 0),x]:=by rfl) (hok:Operand.ok x=true:=by rfl) (hun:v.un=v:=by rfl) (hvf:v.flat=true:=by rfl):aC P n ops (o::rest) ⟨fr,[],loc,objs,base⟩ Q:=
  RT sel he h hs (by
   rw [hca]
   refine ⟨⟨.inr ⟨rfl,0,.inr rfl⟩,.inl ⟨?_,hvf⟩,trivial⟩,by simp [hok];rfl⟩
   rw [←show evE fr []=((⟨fr,[],loc,objs,base⟩:Es).st []).eval from dI ⟨fr,[],loc,objs,base⟩ [],hx,hun]) g hC hd hn ho hc
end
def QS (i:Int):Option Unit:=if 0<i∧i≤1099511627776 then some () else none
theorem VF {i:Int} (h:QS i=some ()):aO Tryz.prog 239 [.lit (.slice none 0 0),zI i] [] (fun v outs=>∃(m:Nat) (s:Slk 1),v=hdM m (Slk.nil (sz:=1)) ([]:List UInt8) s∧outs=[(m,lob (Slk.nil (sz:=1)) zU8 [] s)]):=by
  unfold QS at h
  split at h
  ·rename_i hb
   obtain ⟨n,rfl⟩:∃n:Nat,i=n:=⟨i.toNat,by omega⟩
   intro base hnd G w vs hm hfx hlen hrel
   obtain ⟨v1,v2,rfl,h1,h2⟩:=DV hlen hrel
   have:=pJ h1;subst this
   have:=pJ h2;subst this
   have k1:(Tryz.prog.info? 5).map (fun i=>(i.size,i.bytes))=some (1,1):=by kernel_rfl
   have k2:(Tryz.prog.info? 5).bind (fun i=>i.zero)=some (.int .u8 0):=by kernel_rfl
   obtain ⟨i0,hi0⟩:∃i0,Tryz.prog.info? 5=some i0:=by
     cases hx:Tryz.prog.info? 5 with
     |none=>rw [hx] at k1;cases k1
     |some i=>exact ⟨i,rfl⟩
   rw [hi0] at k1 k2
   have hz0:i0.zero=some (.int .u8 0):=k2
   have hs0:i0.size=1:=congrArg (fun x=>x.1) (Option.some.inj k1)
   have hb0:i0.bytes=1:=congrArg (fun x=>x.2) (Option.some.inj k1)
   have hn1:0<n:=by omega
   have hn2:n≤1099511627776:=by omega
   have H:=Any8.slices_Grow_grow Tryz.lw8 i0 (.int .u8 0) hi0 hz0 (by omega) none 0 0 n [] w (Nat.le_refl _) (by omega) (by rw [hb0];omega) (by omega) (by simp) (fun _=>rfl) (fun a e=>by cases e)
   rw [show Tryz.lw8_ren.t 25=5 from rfl] at H
   refine H.mono ?_
   rintro e w' ⟨rfl,rfl⟩
   have hge:=grownCap_ge w (0+n) 0 5
   have hcm:=grownCap_le_maxLen w (0+n) 0 5 (by unfold maxLen;omega)
   generalize hcap:grownCap w (0+n) 0 5=cap at hge hcm
   have hge':n≤cap:=by omega
   have harr:∀k:Nat,(Builtin.zeroCells (Value.int .u8 0).cells k).toList=List.replicate k (Value.int .u8 0):=fun k=>by
     unfold Builtin.zeroCells
     apply List.ext_getElem
     ·simp [Value.cells]
     ·intro j h1 h2
      simp [Value.cells,Nat.mod_one]
   obtain ⟨N0,hN⟩:=hm.fin
   obtain ⟨N,hNe,hid⟩:∃N,N0≤N∧N%10000=5:=⟨10000*N0+5,by omega,by omega⟩
   have hmb:G.mb N=none:=hN _ hNe
   have hbN:base N=none:=by
     cases hx:base N with
     |none=>rfl
     |some c=>obtain ⟨b,hb,_⟩:=hm.obj N c hx;rw [hmb] at hb;cases hb
   have hfar:=hm.far
   let W:World:=w.drew.alloc (.cells (List.replicate cap (Value.int .u8 0)).toArray 5)
   have harr2:(([]:List Value).toArray++Builtin.zeroCells (Value.int .u8 0).cells (0+n-0)++Builtin.zeroCells (Value.int .u8 0).cells (cap-(0+n)))=(List.replicate cap (Value.int .u8 0)).toArray:=by
     apply Array.ext'
     rw [Array.toList_append,Array.toList_append,harr,harr,List.toList_toArray,List.toList_toArray,List.nil_append,List.replicate_append_replicate,show 0+n-0+(cap-(0+n))=cap by omega]
   have hW:w.drew.alloc (.cells (([]:List Value).toArray++Builtin.zeroCells (Value.int .u8 0).cells (0+n-0)++Builtin.zeroCells (Value.int .u8 0).cells (cap-(0+n))) 5)=W:=by rw [harr2]
   have hsz:W.heap.size=w.heap.size+1:=by show (w.drew.alloc _).heap.size=_;rw [size_alloc];rfl
   have hnew:W.heap[w.heap.size]? =some (.cells (List.replicate cap (Value.int .u8 0)).toArray 5 (0,0)):=j8 w.drew _
   obtain ⟨kp,how,hfar'⟩:=sW (G:=G) (w:=w) (w':=W) (_v':= .slice none 0 0) (.mb N) 0 hsz (fun k hk=>heap_alloc_old w.drew _ hk) hfar rfl rfl rfl
   let G':Gh:={G.new w.heap.size (.mb N) 0 with mb:=fun i=>if i=N then some w.heap.size else G.mb i}
   have hmbG:∀i b,G.mb i=some b→G'.mb i=some b:=fun i b h=>by
     show (if i=N then some w.heap.size else G.mb i)=some b
     rw [if_neg (fun e=>by subst e;rw [hmb] at h;cases h)];exact h
   have hid':G'.mb N=some w.heap.size:=by show (if N=N then some w.heap.size else G.mb N)=_;simp
   have stG:Stab G w G' W:=⟨kp.stab.tip,kp.stab.cell,hmbG⟩
   have hm1:RelM Tryz.prog (G.new w.heap.size (.mb N) 0) W base:=
     hm.move kp.stab (by omega) (fun q b _ h1 h2=>how q b h1 h2) hfar' rfl
   have st2:Stab (G.new w.heap.size (.mb N) 0) W G' W:=⟨fun _=>Nat.le_refl _,fun _ _ _=>rfl,hmbG⟩
   let sl:Slk 1:=⟨(List.replicate cap (Value.int .u8 0)).map .lit,cap,by simp,by rw [List.all_map];exact List.all_eq_true.2 fun u hu=>by rw [(List.mem_replicate.1 hu).2];rfl⟩
   have e1:hdM N (Slk.nil (sz:=1)) ([]:List UInt8) sl= .gsl N 0 0 cap:=by show AV.gsl N (0*1) 0 (0+cap)=_;rw [Nat.zero_add]
   have e2:lob (Slk.nil (sz:=1)) zU8 [] sl=(List.replicate cap (Value.int .u8 0)).map .lit:=rfl
   show ∃_,_
   refine ⟨.gsl N 0 0 cap,lay [(N,(List.replicate cap (Value.int .u8 0)).map .lit)] base,G',.slice (some ⟨w.heap.size,0,none⟩) 0 cap,rfl,⟨_,⟨N,sl,e1.symm,by rw [e2]⟩,rfl,⟨by simp,fun i hi=>?_⟩⟩,rfl,RelV.gsl N 0 0 cap _ hid' (Nat.zero_le _) hcm,⟨fun i cs hi=>?_,fun b hb=>?_,⟨N+1,fun i hi=>?_⟩⟩,?_⟩
   ·simp only [List.map_cons,List.map_nil,List.mem_cons,List.not_mem_nil,or_false] at hi
    subst hi;exact hbN
   ·rw [hW]
    have hi':bA base N ((List.replicate cap (Value.int .u8 0)).map .lit) i=some cs:=hi
    by_cases e:i=N
    ·subst e
     rw [bP] at hi'
     cases hi'
     refine ⟨w.heap.size,hid',.inl ⟨⟨_,_,hnew,by simp,?_,?_,fun c hc=>?_,fun j c u h1 h2=>?_⟩,_,by rw [hid];exact hnew⟩⟩
     ·show (if w.heap.size=w.heap.size then _ else _)=_;simp
     ·show (if w.heap.size=w.heap.size then _ else _)=_;simp
     ·obtain ⟨u,hu,rfl⟩:=List.mem_map.1 hc
      rw [(List.mem_replicate.1 hu).2];rfl
     ·rw [List.getElem?_map] at h1
      rw [show (List.replicate cap (Value.int .u8 0)).toArray[j]? =(List.replicate cap (Value.int .u8 0))[j]? from by rw [←Array.getElem?_toList,List.toList_toArray]] at h2
      rw [h2] at h1
      cases h1
      exact RelV.lit u
    ·rw [bT e] at hi'
     obtain ⟨b2,hb2,hh2⟩:=hm1.obj i cs hi'
     exact ⟨b2,hmbG i b2 hb2,hh2.move st2 (Nat.le_refl _) (fun _ _=>⟨rfl,rfl,rfl⟩) (fun c b _ h2=>⟨h2,rfl,rfl⟩)⟩
   ·rw [hW] at hb;exact hfar' b hb
   ·show (if i=N then some w.heap.size else G.mb i)=none
    rw [if_neg (by omega)];exact hN i (by omega)
   ·rw [hW]
    exact ⟨kp.os,kp.tape,kp.output,kp.size,kp.free,stG⟩
  ·cases h
end
section
open Go.RowKit Go.Shelf
section
attribute [local go_sem] Oper.semAt_some
def bup (zs:List UInt8) (k:Nat):List (Int×Int):=(List.range k).map fun j:Nat=>(((zs.length:Int)-1-j),(((zs[zs.length-1-j]?.getD 0).toNat:Nat):Int))
theorem L2 (zs:List UInt8) (k:Nat):bup zs (k+1)=bup zs k++[(((zs.length:Int)-1-k),(((zs[zs.length-1-k]?.getD 0).toNat:Nat):Int))]:=by simp [bup,List.range_succ]
def KpB (n₀ Bs:Nat) (A B:World):Prop:=Below n₀ A B∧B.cell? ⟨Bs,0,none⟩=A.cell? ⟨Bs,0,none⟩
theorem KpB.refl (n₀ Bs:Nat) (A:World):KpB n₀ Bs A A:=⟨Below.refl _ _,rfl⟩
theorem KpB.trans {n₀ Bs:Nat} {A B C:World} (h:KpB n₀ Bs A B) (k:KpB n₀ Bs B C):KpB n₀ Bs A C:=⟨h.1.trans k.1,k.2.trans h.2⟩
theorem QB (zs:List UInt8) (k:Nat):(bup zs k).length=k:=by simp [bup]
set_option maxRecDepth 100000 in
set_option maxHeartbeats 2000000 in
theorem SZ (F:Fence) (n:Nat) (h7:F.fn 270) (hro:F.round=none) (hn:1≤n) (l Bs n₀ b off cap:Nat) (zs:List UInt8) (hreach:zs.length*8≤140737488351232) (hb:b<n₀) (J Jx:List (Int×Int)→World→Prop)
    (hY:∀pre x W,J pre W→pre.length<zs.length→YieldAt F (n-1) Tryz.prog l #[.int .i64 x.1,.int .u8 x.2] W fun e W'=>
      (e= .returned (.bool true)∧J (pre++[x]) W'∧KpB n₀ Bs W W')∨(e= .returned (.bool false)∧Jx (pre++[x]) W'))
    (W:World) (hBs:W.cell? ⟨Bs,0,none⟩=some (.slice (some ⟨b,off,none⟩) zs.length cap)) (hc:∀j,j<zs.length→W.cell? ⟨b,off+j,none⟩=some (.int .u8 (((zs[j]?.getD 0).toNat:Nat):Int))) (h0:J [] W):
    CallsIn F n Tryz.prog 270 #[.func (.yield l) #[] #[],.pointer (some ⟨Bs,0,none⟩)] W fun e W'=>(∃v,e= .returned v)∧
      ((∃ys,ys=bup zs zs.length∧J ys W')∨(∃pre,(∃k,k≤zs.length∧pre=bup zs k)∧Jx pre W')):=by
  refine callsIn_of_wp Tryz.func270 rfl h7 ?_ hro
  simp only [Tryz.ntmps270,List.size_toArray,List.length_cons,List.length_nil,Nat.reduceAdd,Nat.reduceSub,Array.replicate_succ,Array.replicate_zero,List.push_toArray,List.append_toArray,List.nil_append,List.cons_append]
  gi_wp2
  gi_loopw [3] (fun i wr=>∃k:Nat,k≤zs.length∧i= .int .i64 ((zs.length:Int)-1-k)∧J (bup zs k) wr∧KpB n₀ Bs W wr)
    (fun i _=>(intOf i+1).toNat)
  case atStart=>exact ⟨0,Nat.zero_le _,by simp,h0,KpB.refl _ _ _⟩
  case round=>
    obtain ⟨k,hk,rfl,hJs,hnx⟩:=hrel
    by_cases hlt:k<zs.length
    ·have hcx:wr.cell? ⟨b,off+(zs.length-1-k),none⟩=some (.int .u8 (((zs[zs.length-1-k]?.getD 0).toNat:Nat):Int)):=(hnx.1.cell (p:=⟨b,off+(zs.length-1-k),none⟩) hb).trans (hc _ (by omega))
     obtain ⟨m,hm⟩:∃m:Nat,(zs.length:Int)-1-k=m:=⟨zs.length-1-k,by omega⟩
     have hm2:zs.length-1-k=m:=by omega
     have hBs':=hnx.2.trans hBs
     obtain ⟨fn,tmps,assign,body,hy,hR⟩:=hY _ ((m:Int),(((zs[zs.length-1-k]?.getD 0).toNat:Nat):Int)) wr hJs (by rw [QB];exact hlt)
     dsimp only at hy
     rw [hm2] at hcx hy
     rw [hm]
     gi_wp2
     refine hR.mono ?_
     rintro e W3 (⟨rfl,hJ3,hk3⟩|⟨rfl,hJx3⟩)
     ·gi_wp2
      go_roundw
      case rel=>exact ⟨k+1,by omega,by simp;omega,by rw [L2,hm];exact hJ3,hnx.trans hk3⟩
      case measure=>simp [intOf]
     ·gi_wp2
      refine bodyPost_ret (results_none rfl _ _ _) rfl ?_
      exact ⟨⟨_,rfl⟩,.inr ⟨_,⟨k+1,by omega,(L2 _ _).symm⟩,by rw [hm];exact hJx3⟩⟩
    ·obtain rfl:k=zs.length:=by omega
     gi_wp2
     go_end0
     exact ⟨⟨_,rfl⟩,.inl ⟨_,rfl,hJs⟩⟩
set_option maxHeartbeats 1000000 in
theorem UW (F:Fence) (n:Nat) (h5:F.fn 210) (hro:F.round=none) (a:Option Addr) (len cap:Nat) (w:World):
    CallsIn F n Tryz.prog 210 #[.slice a len cap] w fun e w'=>e= .returned (.func (.func 270) #[] #[.pointer (some ⟨w.heap.size,0,none⟩)])∧w'=w.alloc (.cells #[.slice a len cap] 23):=by
  refine callsIn_of_wp Tryz.func210 rfl h5 ?_ hro
  simp only [Tryz.ntmps210,List.size_toArray,List.length_cons,List.length_nil,Nat.reduceAdd,Nat.reduceSub,Array.replicate_succ,Array.replicate_zero,List.push_toArray,List.append_toArray,List.nil_append,List.cons_append]
  gi_wp2
  go_ret
  exact ⟨rfl,rfl⟩
theorem QA (F:Fence) (n:Nat) (h7:F.fn 270) (hro:F.round=none) (hn:1≤n) (Bs n₀ b off cap:Nat) (zs:List UInt8) (hreach:zs.length*8≤140737488351232) (w:World) (hBs:Bs<w.heap.size) (hn₀:n₀≤w.heap.size) (hb:b<n₀)
    (hc:w.cell? ⟨Bs,0,none⟩=some (.slice (some ⟨b,off,none⟩) zs.length cap)) (hI:∀j,j<zs.length→w.cell? ⟨b,off+j,none⟩=some (.int .u8 (((zs[j]?.getD 0).toNat:Nat):Int))):
    SeqStopsK F n Tryz.prog 270 #[.pointer (some ⟨Bs,0,none⟩)] (fun x:Int×Int=>#[Value.int .i64 x.1,Value.int .u8 x.2]) (KpB n₀ Bs) (fun ys=>ys=bup zs zs.length)
      (fun pre=>∃k,k≤zs.length∧pre=bup zs k) zs.length w:=fun l J Jx W hW _ _ hY h0=>by
  have hc':=(hW.cell (p:=⟨Bs,0,none⟩) hBs).trans hc
  exact SZ F n h7 hro hn l Bs n₀ b off cap zs hreach hb J Jx hY W hc' (fun j hj=>(hW.cell (p:=⟨b,off+j,none⟩) (by show b<_;omega)).trans (hI j hj)) h0
theorem W9 {n₀ Bs:Nat} {w:World} (hn:n₀≤w.heap.size) (hb:Bs<w.heap.size) (W:World) (l:Nat) (o o':Obj) (hl:w.heap.size≤l) (h:W.heap[l]? =some o) (h1:o.isCells=false) (h2:o.isWalk=false):KpB n₀ Bs W (W.putObj l o'):=
  ⟨belowK_b hn W l o o' hl h h1 h2,(belowK_b (n₀:=Bs+1) (by omega) W l o o' hl h h1 h2).cell (p:=⟨Bs,0,none⟩) (by show Bs<Bs+1;omega)⟩
def JM (pre:List (Int×Int)):Int:=pre.foldl (fun s x=>bits .or .i64 (wrap64 (s*256)) (wrap64 x.2)) 0
theorem SE (pre:List (Int×Int)) (x:Int×Int):JM (pre++[x])=bits .or .i64 (wrap64 (JM pre*256)) (wrap64 x.2):=by simp [JM]
set_option maxRecDepth 100000 in
set_option maxHeartbeats 2000000 in
theorem SF (F:Fence) (n:Nat) (h3:F.fn 157) (h6:F.fn 210) (h8:F.fn 270) (hro:F.round=none) (hn:3≤n) (b off len cap:Nat) (zs:List UInt8) (hz:zs.length=4) (hl4:4≤cap) (w:World) (hb:b<w.heap.size)
    (hI:∀j,j<zs.length→w.cell? ⟨b,off+j,none⟩=some (.int .u8 (((zs[j]?.getD 0).toNat:Nat):Int))):
    CallsIn F n Tryz.prog 157 #[.slice (some ⟨b,off,none⟩) len cap] w fun e W'=>e= .returned (.int .i64 (JM (bup zs zs.length)))∧Below w.heap.size w W':=by
  have h1:1≤n:=by omega
  refine callsIn_of_wp_marks Tryz.func157 rfl h3 ?_ hro
  simp only [Tryz.ntmps157,List.size_toArray,List.length_cons,List.length_nil,Nat.reduceAdd,Nat.reduceSub,Array.replicate_succ,Array.replicate_zero,List.push_toArray,List.append_toArray,List.nil_append,List.cons_append]
  gi_wp2_with (gi_at_call 210;refine (UW F (n-1) h6 hro _ _ _ _).mono ?_;rintro e w' ⟨rfl,rfl⟩)
  have bS:=Boxed.new w 3 (.int .i64 0)
  have bN:=Boxed.new (w.alloc (.cells #[.int .i64 0] 3)) 23 (.slice (some ⟨b,off,none⟩) 4 cap)
  rw [World.size_alloc] at bN
  have hB0:Below w.heap.size w ((w.alloc (.cells #[.int .i64 0] 3)).alloc (.cells #[.slice (some ⟨b,off,none⟩) 4 cap] 23)):=((Below.refl _ w).alloc (Nat.le_refl _) _).alloc (by simp) _
  refine wpIn_rangeFunc_ownG hro h1 (gf:=270) (lb:=#[.pointer (some ⟨w.heap.size+1,0,none⟩)]) rfl h8 (enters_of Tryz.func270 (by kernel_rfl) rfl)
    (QA F (n-1) h8 hro (by omega) (w.heap.size+1) w.heap.size b off cap zs (by omega) _ (by simp) (by simp;omega) hb (by rw [hz];exact bN.cell) (fun j hj=>(hB0.cell (p:=⟨b,off+j,none⟩) hb).trans (hI j hj))) KpB.trans (W9 (by simp;omega) (by simp)) (Below.refl _ _) (fun _=>rfl)
    (fun pre W=>(W.cell? ⟨w.heap.size,0,none⟩=some (.int .i64 (JM pre))∧W.frozen? ⟨w.heap.size,0,none⟩=false)∧Below w.heap.size w W)
    (fun _ _ _=>False)
    (OwnFrom.and (Own.from (fun s A B row hs hg hr=>⟨cell_kept hs.1 hg hr,(frozen_kept hs.1 hg hr).trans hs.2⟩) _) (ownFrom_below (Nat.le_refl _) (by simp;omega)))
    (fun _ _ _ _ _ hs _ _=>hs)
    ⟨⟨(bS.alloc _).cell,(bS.alloc _).frozen⟩,hB0⟩
    (fun x=>{tmps:=#[.slice (some ⟨b,off,none⟩) len cap,undef,.int .i64 0,.pointer (some ⟨w.heap.size,0,none⟩),undef,.int .u8 x.2,.slice (some ⟨b,off,none⟩) len cap,.slice (some ⟨b,off,none⟩) 4 cap,.func (.func 270) #[] #[.pointer (some ⟨w.heap.size+1,0,none⟩)],.int .i64 x.1,.int .u8 x.2,undef,undef,undef,undef,undef,undef],defers:=[]}) ?assign ?body ?done ?stop
  case assign=>
    intro l x W K hK
    gi_wp2
    exact hK
  case body=>
    rintro l pre x W ⟨⟨hc,hf⟩,hB⟩ _
    gi_wp2
    refine ⟨(KeepsOthers.setCell _ _ _).from _,⟨(Below.refl w.heap.size W).setCell (p:=⟨w.heap.size,0,none⟩) (Nat.le_refl _) _,?_⟩,⟨by rw [SE];exact World.cell?_setCell_same' _ _ _ (by rw [hc];rfl),by rw [World.frozen?_setCell];exact hf⟩,hB.setCell (p:=⟨w.heap.size,0,none⟩) (Nat.le_refl _) _⟩
    refine World.cell?_setCell_other _ _ _ _ ?_
    intro e;injection e;omega
  case done=>
    rintro D ys W hD rfl ⟨⟨hc,_⟩,hB⟩ hK
    gi_wp2
    refine ⟨by simp,.inl ⟨_,_,rfl,run_takeDeferred hK,?_⟩⟩
    exact ⟨_,results_tmp rfl _ _ _,by rw [hz];rfl,hB.trans (belowK_b (w:=w) (Nat.le_refl _) W D _ _ (by simp at hD;omega) hK rfl rfl)⟩
  case stop=>
    rintro D c pre W _ _ h _
    exact h.elim
def Q1 (l:List UInt8):Option Int:=if 4≤l.length then some (JM (bup (l.take 4) 4)) else none
theorem SD {l:List UInt8} {r:Int} (h:Q1 l=some r):aI Tryz.prog 157 [.list false 5 (l.map zU8)] (zI r):=by
  unfold Q1 at h
  split at h
  ·rename_i hl4
   cases h
   refine aI.of fun M=>kF rfl ?_
   intro G w vs hm hfx hlen hrel
   obtain ⟨v,rfl,h1⟩:=L1 hlen hrel
   generalize hxs:l.map zU8=xs at h1
   have hxl:xs.length=l.length:=by rw [←hxs,List.length_map]
   cases h1 with
   |nil=>simp at hxl;omega
   |zero=>simp at hxl;omega
   |row _ _ _ b off cap size us hs hl hsc hcap hmax htip hc hr=>
    have hsz:size=1:=by
      have:=hl (xs[0]'(by omega)) (List.getElem_mem _)
      rw [←this]
      subst hxs
      simp [AV.cells]
    subst hsz
    have htip':=htip (by omega)
    have hb:b<w.heap.size:=by
      rcases Nat.lt_or_ge b w.heap.size with h|h
      ·exact h
      ·rw [(hm.far b h).1] at htip';omega
    have hfl:xs.flatMap AV.cells=xs:=by
      subst hxs
      clear hrel hlen hc hr htip hl hsc hcap hxl htip' hl4
      induction l with
      |nil=>rfl
      |cons a r ih=>simp only [List.map_cons,List.flatMap_cons,ih];rfl
    have hz:(l.take 4).length=4:=by rw [List.length_take];omega
    have key:=SF Fence.wide 3 trivial trivial trivial rfl (Nat.le_refl _) b off xs.length cap (l.take 4) hz (by omega) w hb (fun j hj=>by
      rw [hz] at hj
      have h1:=hc j (by omega)
      rw [h1]
      obtain ⟨u,hu⟩:∃u,l[j]? =some u:=⟨_,List.getElem?_eq_getElem (show j<l.length by omega)⟩
      have h2:(xs.flatMap AV.cells)[j]? =some (zU8 u):=by rw [hfl,←hxs,List.getElem?_map,hu];rfl
      have h3:=pJ (hr j _ h2)
      rw [h3,List.getElem?_take_of_lt hj,hu]
      rfl)
    refine (callsIn_wide.1 key).mono ?_
    rintro e w' ⟨rfl,hB⟩
    exact ⟨_,by rw [hz],.lit _,hB⟩
  ·cases h
end
end
section
open Go.RowKit
section
variable {P:Program} {n:Nat} {s:St} {ops:Array Oper} {rest:List Oper} {o o1 o2:Oper} {Q:St→Prop} {d d1:Nat} {t tx E:TypeId} {x y:Operand}
theorem LS {xs:List AV} {size:Nat} (hg1:bY ops s o1) (hd1:o1.dst=some d1) (hn1:d1<n) (hs:aZ P E size) (hl:∀x∈xs,x.cells.length=size) (hsc:∀x∈xs,∀c∈x.cells,c.scalar=true) (hmax:xs.length≤maxLen) (_h0:size≠0)
    (h:∀(G:Gh) (a:Act) (w:World),RelSt P G n s a w→∃cs:List Value,cs.length=xs.length*size∧(∀(j:Nat) c u,(xs.flatMap AV.cells)[j]? =some c→cs[j]? =some u→RelV P G w c u)∧
     (execOp a.eval o1).run P w= .ok (.value (.slice (some ⟨w.heap.size,0,none⟩) xs.length xs.length)) (w.alloc (.cells cs.toArray E)))
    (_hne:xs.isEmpty=false) (hg2:bY ops (s.put d1 (.list true E xs)) o2) (hd2:o2.dst=some d) (hn:d<n) (ho2:o2.op= .convert t t (.tmp d1)) (hu:P.underlying t=some (.slice E)) (hE:P.underlying E=some (.int .u8))
    (k:∀b,aM P n ops rest {s with fr:=(d,.pin (.list false E xs) (.slice (some ⟨b,0,none⟩) xs.length xs.length))::(d1,.list false E xs)::(d1,.list true E xs)::s.fr} Q):aM P n ops (o1::o2::rest) s Q:=by
  intro G a w K hr hfx hK
  obtain ⟨cs,hcl,hcr,hrun1⟩:=h G a w hr
  have hfar:=hr.mem.far
  obtain ⟨v,hv⟩:∃v:Value,v= .slice (some ⟨w.heap.size,0,none⟩) xs.length xs.length:=⟨_,rfl⟩
  obtain ⟨w1,hw1⟩:∃w1,w1=w.alloc (.cells cs.toArray E):=⟨_,rfl⟩
  rw [←hv,←hw1] at hrun1
  have st1:Stab G w (G.new w.heap.size (.slot d1 0) (xs.length*size)) w1:=by rw [hw1];exact pK (.cells cs.toArray E) (.slot d1 0) (xs.length*size) hfar
  have kp1:Keep G w (G.new w.heap.size (.slot d1 0) (xs.length*size)) w1:=by rw [hw1];exact sI _ _ _ hfar
  have hsz1:w1.heap.size=w.heap.size+1:=by rw [hw1,size_alloc]
  have hnew:w1.heap[w.heap.size]? =some (.cells cs.toArray E (0,0)):=by rw [hw1];exact j8 _ _
  have hr1:RelSt P (G.new w.heap.size (.slot d1 0) (xs.length*size)) n (s.put d1 (.list true E xs)) (a.put (some d1) v) w1:=by
    subst hw1
    refine hr.turn hn1 st1 (by rw [size_alloc];omega) (fun _ _=>rfl) (fun q b h1 h2 _=>vX _ _ _ _ b h1 h2) (fun b hb=>u1 _ _ _ hfar b hb) rfl ?_
    refine .inl ⟨size,cs,hs,hl,hsc,⟨hcl,.inr ⟨w.heap.size,xs.length,cs.toArray,hv,Nat.zero_le _,j8 _ _,Nat.le_refl _,hmax,by simpa using hcl,by rw [←hcl];simp⟩⟩,fun j c u h1 h2=>(hcr j c u h1 h2).stab st1,fun b hb=>?_⟩
    rw [hv] at hb
    simp only [Value.ownBlock,Option.some.injEq] at hb
    subst hb
    refine ⟨by rw [size_alloc];omega,?_,?_⟩
    ·show (if w.heap.size=w.heap.size then _ else _)=_;simp
    ·show (if w.heap.size=w.heap.size then _ else _)=_;simp
  simp only [wpList]
  rw [if_pos (eR hr (fun t=>by omega) hg1)]
  left
  unfold Oper.wp
  rw [hrun1,Oper.upon_value,hd1]
  rw [if_pos (eR hr1 (fun t=>by omega) hg2)]
  left
  have hev:(a.put (some d1) v).eval (.tmp d1)=v:=by
    have h1:=hr.size
    simp [Act.put,Act.eval,h1,hn1]
  have hsl:=hr1.slot d1
  rw [B1] at hsl
  have hun:RelV P (G.new w.heap.size (.slot d1 0) (xs.length*size)) w1 (.list false E xs) v:=by
    have h2:eM P (G.new w.heap.size (.slot d1 0) (xs.length*size)) w1 (.slot d1 0) (.list true E xs) ((a.put (some d1) v).tmps.getD d1 undef):=hsl
    have e:(a.put (some d1) v).tmps.getD d1 undef=v:=hev
    rw [e] at h2
    rcases h2.toV with h|⟨cs,e⟩
    ·exact h
    ·cases e
  generalize hG1:G.new w.heap.size (.slot d1 0) (xs.length*size)=G1 at*
  have hown1:G1.owner w.heap.size=some (.slot d1 0):=by rw [←hG1];show (if w.heap.size=w.heap.size then _ else _)=_;simp
  generalize ha1:a.put (some d1) v=a1 at*
  have hsh:w1.shape? w.heap.size=some (E,cs.toArray.size):=by simp [World.shape?,hnew]
  obtain ⟨W',hW⟩:∃W',W'=w1.freeze ⟨w.heap.size,cs.toArray.size,none⟩ 1:=⟨_,rfl⟩
  have hrun:(convert t t v).run P w1= .ok v W':=by
    rw [hW,hv]
    simp [convert,run_underlying hu,run_underlying hE,markStringish,hsh]
  have hoth:∀b,b≠w.heap.size→W'.heap[b]? =w1.heap[b]? :=fun b h=>by rw [hW];exact FL h
  have st:Stab G1 w1 G1 W':=⟨fun _=>Nat.le_refl _,fun b o _=>by rw [hW];exact FH _,fun _ _ h=>h⟩
  have hz':w1.heap.size≤W'.heap.size:=by rw [hW,wK];exact Nat.le_refl _
  have hr0:=hr1.unslot d1
  have hg0:(s.put d1 (.list true E xs)).get d1= .list true E xs:=B1 _ _ _
  have hT:=hr0.turnX (G':=G1) (w':=W') (d:=d) (v:= .pin (.list false E xs) v) (u:=v) (fun i=>i=d1) (fun i hi=> .inr (by rw [hi,B1,RE])) hn st hz' (fun _ _=>rfl)
    (fun q b _ h1 h2=>⟨h1,hoth b (fun e=>by subst e;rw [hown1] at h1;cases h1;exact h2 d1 0 rfl rfl),rfl⟩) (fun b hb=>hr1.mem.far b (by rw [hW,wK] at hb;exact hb)) rfl ⟨rfl,rfl,hun.stab st⟩
  rw [hg0] at hT
  have kp2:Keep G1 w1 G1 W':=⟨by rw [hW,KG],by rw [hW,FO],by rw [hW,DF],hz',fun b hb hn=>⟨hn,hoth b (fun e=>by subst e;rw [hown1] at hn;cases hn),rfl⟩,st⟩
  have hrun2:(execOp a1.eval o2).run P w1= .ok (.value v) W':=by simp [execOp,ho2,hev,hrun]
  rw [hrun2,Oper.upon_value,hd2]
  refine k w.heap.size G1 _ W' K ?_ ((hfx.keep kp1).keep kp2) fun s2 G2 a2 w2 hq hr2 hk2=>hK s2 G2 a2 w2 hq hr2 ((kp1.trans kp2).trans hk2)
  rw [←hv]
  exact hT
theorem N2 {size bytes:Nat} {i:TypeInfo} {z:Value} {A:Addr} {cap:Nat} {xs ys zs:List AV} {c:Call} (hg:bY ops s o) (hd:o.dst=some d) (hn:d<n) (ho:o.op= .call c) (hc:c.callee= .builtin .append) (ha:c.args=#[x,y]) (hat:c.argTypes=#[t,tx])
    (ht:P.underlying t=some (.slice E)) (hi:P.info? E=some i) (hz:i.zero=some z) (hsz:i.size=size) (hby:i.bytes=bytes) (hzs:z.cells.size=size)
    (hx:s.eval x= .pin (.list false E xs) (.slice (some A) xs.length cap))
    (hsrc:∀(G:Gh) (a:Act) (w:World),RelSt P G n s a w→(∀x∈ys,x.cells.length=size)∧(∀x∈ys,∀c∈x.cells,c.scalar=true)∧∃news,Src P size tx (a.eval y) ys.length news w∧∀(j:Nat) c u,(ys.flatMap AV.cells)[j]? =some c→news[j]? =some u→RelV P G w c u)
    (hpos:0<xs.length) (hroom:cap<xs.length+ys.length) (h63:xs.length+ys.length≤maxLen) (hb:(xs.length+ys.length)*bytes≤140737488355328) (hzz:xs++ys=zs)
    (k:aM P n ops rest (s.put d (.list true E zs)) Q):aM P n ops (o::rest) s Q:=by
  refine aM.step hg hd ?_ k
  subst hzz
  subst hsz
  subst hby
  intro G a w hr
  obtain ⟨hly,hscy,news,hsr,hnr⟩:=hsrc G a w hr
  have hnl:=hsr.newsLen
  have hs:aZ P E i.size:=by unfold aZ;rw [hi];simp
  have hfar:=hr.mem.far
  obtain ⟨p,hp⟩:=hr.ev x (fun v cs e1 e2=>by subst e1;subst e2;simp [St.eval,cF] at hx)
  rw [hx] at hp
  obtain ⟨hv,_,hrel⟩:=hp
  rw [hv] at hrel
  have h63':xs.length+ys.length≤9223372036854775807:=by simp only [maxLen] at h63;omega
  cases hrel with
  |zero=>simp at hpos
  |row _ _ _ b off _ size' us hs' hl hsc hcap hmax htip hcell hrr=>
   have:size'=i.size:=by unfold aZ at hs hs';rw [hs] at hs';exact (Option.some.inj hs').symm
   subst this
   let olds:List Value:=(List.range (xs.length*i.size)).map us
   have hold:(Builtin.firstCells i.size xs.length (.slice (some ⟨b,off,none⟩) xs.length cap)).run P w.drew= .ok olds.toArray w.drew:=by
     refine run_firstCells_some w.drew i.size xs.length ⟨b,off,none⟩ xs.length cap olds (by simp [olds]) (fun j u hj=>?_)
     have hjl:=(List.getElem?_eq_some_iff.1 hj).1
     have e:us j=u:=by
       have h2:=hj
       simp only [olds,List.getElem?_map] at h2
       rw [List.getElem?_range (by simpa [olds] using hjl)] at h2
       simpa using h2
     rw [jA,←e]
     exact hcell j (by simpa [olds] using hjl)
   have hr0:=run_append_grow_src (P:=P) w t tx o.type E i z ht hi hz (some ⟨b,off,none⟩) xs.length cap olds hold (a.eval y) ys.length news hsr hroom (by omega) (growslice_fits hroom hb)
   have hge':=grownCap_ge w (xs.length+ys.length) cap E
   have hcm:=grownCap_le_maxLen w (xs.length+ys.length) cap E h63
   generalize hcap':grownCap w (xs.length+ys.length) cap E=cap' at*
   have holdl:olds.length=xs.length*i.size:=by simp [olds]
   have hlen:(olds++news).length=(xs.length+ys.length)*i.size:=by rw [List.length_append,holdl,hnl,Nat.add_mul]
   obtain ⟨w',hw'⟩:∃w',w'=w.drew.alloc (.cells ((olds++news).toArray++Builtin.zeroCells z.cells (cap'-(xs.length+ys.length))) E):=⟨_,rfl⟩
   rw [←hw'] at hr0
   have hsz':w'.heap.size=w.heap.size+1:=by rw [hw',size_alloc];rfl
   have hown':w'.ownsRow 0 E i.size (.slice (some ⟨w.heap.size,0,none⟩) (xs.length+ys.length) cap') (xs.length+ys.length) (olds++news):=by
     refine ⟨hlen,.inr ⟨w.heap.size,cap',_,rfl,Nat.zero_le _,by rw [hw'];exact heap_alloc_new w.drew _,hge',hcm,?_,?_⟩⟩
     ·rw [Array.size_append,List.size_toArray,size_zeroCells,hzs,hlen,←Nat.add_mul]
      congr 1
      omega
     ·rw [Array.toList_append,←hlen]
      exact List.take_left
   obtain ⟨kp,how,hfar'⟩:=sW (G:=G) (w:=w) (w':=w') (_v':= .slice none 0 0) (.slot d 0) ((xs++ys).length*i.size) hsz' (fun k hk=>by rw [hw'];exact heap_alloc_old w.drew _ hk) hfar (by rw [hw'];rfl) (by rw [hw'];rfl) (by rw [hw'];rfl)
   have hrel2:∀(j:Nat) c u,((xs++ys).flatMap AV.cells)[j]? =some c→(olds++news)[j]? =some u→RelV P G w c u:=by
     rw [MD]
     refine JP (by rw [holdl,jS hl]) (fun j c u h1 h2=>?_) hnr
     have hjl:=(List.getElem?_eq_some_iff.1 h2).1
     have e:us j=u:=by
       simp only [olds,List.getElem?_map] at h2
       rw [List.getElem?_range (by simpa [olds] using hjl)] at h2
       simpa using h2
     rw [←e]
     exact hrr j c h1
   refine ⟨.slice (some ⟨w.heap.size,0,none⟩) (xs.length+ys.length) cap',w',_,?_,?_,kp⟩
   ·simp [execOp,ho,resolve,hc,ha,hat,invoke,builtin,hv,hr0]
   ·refine hr.turn hn kp.stab (by omega) (fun _ _=>rfl) (fun q b h1 h2 _=>how q b h1 h2) hfar' rfl ?_
    refine .inl ⟨i.size,olds++news,hs,fun x hx=>(List.mem_append.1 hx).elim (hl x) (hly x),fun x hx=>(List.mem_append.1 hx).elim (hsc x) (hscy x),by rw [List.length_append];exact hown',fun j c u h1 h2=>(hrel2 j c u h1 h2).stab kp.stab,fun b hb=>?_⟩
    simp only [Value.ownBlock,Option.some.injEq] at hb
    subst hb
    refine ⟨by omega,?_,?_⟩
    ·show (if w.heap.size=w.heap.size then _ else _)=_;simp
    ·show (if w.heap.size=w.heap.size then _ else _)=_;simp
end
section
variable {P:Program} {n:Nat} {ops:Array Oper} {rest:List Oper} {o o1 o2:Oper} {Q:Es→Prop} {d d1:Nat} {t tx E:Nat} {x y:Operand}
def neO {α:Type} (l:List α):Option Unit:=bif l.isEmpty then none else some ()
theorem WI {α:Type} {l:List α} {u:Unit} (h:neO l=some u):l.isEmpty=false:=by
  unfold neO at h
  cases hl:l.isEmpty with
  |false=>rfl
  |true=>rw [hl] at h;cases h
theorem S5 [I:HasTab P] {fr:Fr} {loc:List (Nat×List AV)} {objs:Ob} {base:Nat→Option (List AV)} {len:Nat} {xs:List AV} {ps:Array (Nat×Operand)} {z1:Nat}
    (g:∀b,aC P n ops rest ⟨(d,[],.pin (.list false E xs) (.slice (some ⟨b,0,none⟩) xs.length xs.length))::(d1,[],.list false E xs)::(d1,[],.list true E xs)::fr,[],loc,objs,base⟩ Q)
    (hC:bH ops fr o1=some []:=by rfl) (hd1:o1.dst=some d1:=by rfl) (hn1:Nat.blt d1 n=true:=by rfl) (ho1:o1.op= .buildSlice t len ps:=by rfl) (hv:EP (HasTab.T P) (HasTab.Z P) (evE fr []) t len ps.toList=some (.list true E xs):=by rfl)
    (hC2:bH ops ((d1,[],.list true E xs)::fr) o2=some []:=by rfl) (hd:o2.dst=some d:=by rfl) (hn:Nat.blt d n=true:=by rfl) (ho2:o2.op= .convert t t (.tmp d1):=by rfl)
    (h1:(HasTab.T P).look t=some (.slice E,z1):=by rfl) (h3:(HasTab.T P).look E=some (.int .u8,1):=by rfl) (hf:a7 fr=true:=by rfl) (hne:xs.isEmpty=false:=by rfl):aC P n ops (o1::o2::rest) ⟨fr,[],loc,objs,base⟩ Q:=by
  obtain ⟨⟨D,hD,hk⟩,_⟩:=Tab.ok I.tok h1
  have:=bU hk;subst this
  obtain ⟨⟨D3,hD3,hk3⟩,_⟩:=Tab.ok I.tok h3
  have:=vV hk3;subst this
  rw [show evE fr []=((⟨fr,[],loc,objs,base⟩:Es).st []).eval from dI ⟨fr,[],loc,objs,base⟩ []] at hv
  unfold EP at hv
  simp only [h1,h3] at hv
  split at hv
  ·rename_i zc hz
   obtain ⟨z,Ez,z1',z2',rfl,_⟩:=Zt.ok I.zok hz
   cases hc:(Nat.beq (dM z.cells.toList Ez).length 1&&Nat.beq len ps.toList.length&&Nat.ble (len*1) 1000&&!(Nat.beq (len*1) 0)) with
   |false=>rw [hc] at hv;cases hv
   |true=>
    rw [hc] at hv
    simp only [Bool.and_eq_true,Bool.not_eq_true'] at hc
    obtain ⟨⟨⟨c1,c2⟩,c3⟩,c4⟩:=hc
    simp only [cond_true] at hv
    split at hv
    ·rename_i xs' hxs
     cases hv
     obtain ⟨p1,p2,p3⟩:=JU hxs
     have hlen:xs.length=len:=by rw [p3];exact (Nat.eq_of_beq_eq_true c2).symm
     have hzs:z.cells.size=1:=by have:=Nat.eq_of_beq_eq_true c1;rw [xX] at this;simpa using this
     have hle:len*1≤1000:=Nat.le_of_ble_eq_true c3
     have hpos:¬len*1=0:=fun e=>by rw [e] at c4;cases c4
     have hs:=(Tab.ok I.tok h3).2
     obtain ⟨i,hi,hisz⟩:=BJ hs
     have hiz:i.zero=some z:=by rw [hi] at z1';simpa using z1'
     have hscx:∀x∈xs,∀c∈x.cells,c.scalar=true:=fun x hx c hcm=>by
       have:=(p2 x hx).2
       cases x with
       |agg cs=>exact List.all_eq_true.1 (show cs.all AV.scalar=true from this) c hcm
       |_=>simp only [AV.cells,List.mem_singleton] at hcm;subst hcm;exact this
     have hlx:∀x∈xs,x.cells.length=1:=fun x hx=>(p2 x hx).1
     intro G a w K hr hfx hK
     have hnd:=hr.nd
     refine (LS (P:=P) (n:=n) (rest:=rest) (E:=E) (size:=1) (s:=(⟨fr,[],loc,objs,base⟩:Es).st []) (Q:=fun s''=>∃e'',e''.st []=s''∧e''.nd∧Q e'') (xs:=xs) (cB (e:=⟨fr,[],loc,objs,base⟩) _ hC) hd1 (Nat.le_of_ble_eq_true hn1) hs hlx hscx (by unfold maxLen;omega) (by decide) ?_ hne (cB (e:=⟨(d1,[],.list true E xs)::fr,[],loc,objs,base⟩) _ hC2) hd (Nat.le_of_ble_eq_true hn) ho2 hD hD3 ?_) G a w K (hr.st bF) hfx ?_
     ·intro G a w hr
      obtain ⟨h1,h2⟩:=p1.of.rel hr
      have hzmem:∀c∈((Array.range (xs.length*1)).map (z.cells[· %z.cells.size]!)).toList,c.oneCell'=true:=by
        intro c hc
        simp only [Array.toList_map,List.mem_map] at hc
        obtain ⟨j,_,rfl⟩:=hc
        have hlt:j%z.cells.size<z.cells.size:=Nat.mod_lt _ (by omega)
        rw [getElem!_pos z.cells _ hlt]
        exact List.all_eq_true.1 z2' _ (by simp)
      obtain ⟨arr,hfill,hrel⟩:=yH (P:=P) (G:=G) (w:=w) (fun i=>some (i*1,1)) (C4 0 xs) _ _ ((Array.range (xs.length*1)).map (z.cells[· %z.cells.size]!)) (xs.flatMap AV.cells) h1 h2 (nY _ [] hzmem) (by
        rw [KN hzs]
        have:=D6 (size:=1) xs 0 [] (dM (List.replicate xs.length z.cells.toList).flatten []) (by simp) (by rw [xX,JQ,show z.cells.toList.length=1 from (Array.length_toList).trans hzs]) (fun v hv=>(p2 v hv).1)
        simpa using this)
      refine ⟨arr.toList,by rw [hrel.1,jS hlx],hrel.2,?_⟩
      have:=run_buildSlice (P:=P) w t E xs.length (ps.map fun (i,x)=>(i,a.eval x)) arr i z hD hi hiz (by rw [hisz,hlen];omega) (by rw [hisz,hlen];exact hpos) (by rw [hisz];exact hfill)
      simp only [Array.toArray_toList]
      rw [hlen] at this ⊢
      simp only [execOp,ho1,Sem.run_bind,this,Result.andThen_ok]
      rfl
     ·intro b G1 a1 w1 K1 hr1 hfx1 hK1
      exact g b G1 a1 w1 K1 (RelE.of hr1 (by simpa [a7] using hf) hnd) hfx1 (fun e2 G2 a2 w2 hq hr2 hk2=>hK1 _ G2 a2 w2 ⟨e2,rfl,hr2.2,hq⟩ hr2.1 hk2)
     ·rintro s'' G' a' w' ⟨e'',rfl,hn2,hq⟩ hr' hk
      exact hK e'' G' a' w' hq ⟨hr',hn2⟩ hk
    ·cases hv
  ·cases hv
theorem UZ [I:HasTab P] {fr:Fr} {loc:List (Nat×List AV)} {objs:Ob} {base:Nat→Option (List AV)} {l m r:List UInt8} {o2:Bool} {t tx z1 z2 b:Nat} {c:Call} {x:Operand} (he:bM l m=some r) (hm:m.isEmpty=false) (g:aC P n ops rest ⟨(d,[],.list true E (r.map zU8))::fr,[],loc,objs,base⟩ Q)
    (hC:bH ops fr o=some []:=by rfl) (hd:o.dst=some d:=by rfl) (hn:Nat.blt d n=true:=by rfl) (ho:o.op= .call c:=by rfl) (hc:c.callee= .builtin .append:=by rfl) (ha:c.args=#[x,y]:=by rfl) (hat:c.argTypes=#[t,tx]:=by rfl)
    (h1:(HasTab.T P).look t=some (.slice E,z1):=by rfl) (h2:(HasTab.T P).look tx=some (.slice E,z2):=by rfl) (hB:cT E (HasTab.B P)=true:=by rfl) (hx:evE fr [] x= .pin (.list false E (l.map zU8)) (.slice (some ⟨b,0,none⟩) l.length l.length):=by rfl) (hl:l.isEmpty=false:=by rfl) (hy:evE fr [] y= .list o2 E (m.map zU8):=by rfl):aC P n ops (o::rest) ⟨fr,[],loc,objs,base⟩ Q:=by
  obtain ⟨⟨D,hD,hk⟩,_⟩:=Tab.ok I.tok h1
  have:=bU hk;subst this
  obtain ⟨⟨D2,hD2,hk2⟩,_⟩:=Tab.ok I.tok h2
  have:=bU hk2;subst this
  obtain ⟨ti,z,hi,hz,hzs,hb⟩:=uT.at I.bok hB
  obtain ⟨hll,rfl⟩:=xY he
  have hs:aZ P E ti.size:=by unfold aZ;rw [hi];simp
  have hlp:0<l.length:=by cases l with|nil=>cases hl|cons a r=>simp
  have hmp:0<m.length:=by cases m with|nil=>cases hm|cons a r=>simp
  have hlen:(l.map zU8).length=l.length:=List.length_map ..
  have hlen2:(m.map zU8).length=m.length:=List.length_map ..
  refine cQ (add:=[(d,.list true E ((l++m).map zU8))]) rfl (fun Q' hk=>N2 (xs:=l.map zU8) (ys:=m.map zU8) (A:=⟨b,0,none⟩) (cap:=l.length) (cB (e:=⟨fr,[],loc,objs,base⟩) _ hC) hd (Nat.le_of_ble_eq_true hn) ho hc ha hat hD hi hz rfl rfl hzs (by rw [hlen];exact bK (e:=⟨fr,[],loc,objs,base⟩) hx)
    (fun G a w hr=>by
      obtain ⟨h1,h2,_⟩:=CR hs (bK (e:=⟨fr,[],loc,objs,base⟩) hy) G a w hr
      exact ⟨h1,h2,HC hD2 hs (bK (e:=⟨fr,[],loc,objs,base⟩) hy) G a w hr⟩)
    (by rw [hlen];exact hlp) (by rw [hlen,hlen2];omega) (by rw [hlen,hlen2];exact Nat.le_trans hll (by decide)) (by rw [hlen,hlen2];exact Nat.le_trans (Nat.mul_le_mul hll hb) (by decide)) List.map_append.symm hk) id g
end
end
section
open Go.RowKit
theorem tk1 {P:Program} {kt ie:TypeId} (hu:P.underlying kt=some (.array 2 ie)) (hi:P.underlying ie=some (.int .i64)) (hs:∀w,(sizeOf ie).run P w= .ok 1 w) (ha:∀w,(isAgg ie).run P w= .ok false w) (e:Bool) (a b:Int) (w:World):
   (Instr.checkKey e 10000 kt (.agg #[.int .i64 a,.int .i64 b])).run P w= .ok () w:=by
  have hk:∀x w,(Instr.checkKey e 9999 ie (.int .i64 x)).run P w= .ok () w:=fun x w=>MapKept.run_checkKey (k:= .int .i64 x) hi rfl e 9998
  unfold Instr.checkKey
  simp [Sem.run_bind,run_underlying hu,Result.andThen,part,List.range',hs,ha,hk]
theorem tk2 {P:Program} (a b:Int) (w:World):(Instr.keyThatStays (.agg #[.int .i64 a,.int .i64 b]) (.agg #[.int .i64 a,.int .i64 b])).run P w= .ok (.agg #[.int .i64 a,.int .i64 b]) w:=by
  have h:Instr.sameBits 10000 (.agg #[.int .i64 a,.int .i64 b]) (.agg #[.int .i64 a,.int .i64 b])=true:=by
    rw [Instr.sameBits]
    simp [Instr.sameBits]
  simp [Instr.keyThatStays,h]
def uD (k:Int×Int):Value:= .agg #[.int .i64 k.1,.int .i64 k.2]
theorem W8 {P:Program} {kt ie:TypeId} (hu:P.underlying kt=some (.array 2 ie)) (hi:P.underlying ie=some (.int .i64)) (hs:∀w,(sizeOf ie).run P w= .ok 1 w) (ha:∀w,(isAgg ie).run P w= .ok false w)
    (he:∀a b c d:Int,eqV P 3 kt [.int .i64 a,.int .i64 b] [.int .i64 c,.int .i64 d]=some ((a==c)&&((b==d)&&true))):KeyT P kt uD:=by
  refine ⟨fun e k w=>tk1 hu hi hs ha e k.1 k.2 w,fun k ks es w h=>?_,fun k w=>tk2 k.1 k.2 w⟩
  have hask:∀(ks:List (Int×Int)) (es:List MapEntry) (o:Nat),es.map (·.key)=ks.map uD→(Instr.findAsking kt (uD k) es o).run P w= .ok ((fE k ks 0).bind fun j=>(es[j]?).map fun e=>(j+o,e.val)) w:=by
    intro ks
    induction ks with
    |nil=>intro es o h;cases es with
     |nil=>rfl
     |cons e es=>cases h
    |cons a r ih=>
     intro es o h
     cases es with
     |nil=>cases h
     |cons e es=>
      rw [List.map_cons,List.map_cons,List.cons.injEq] at h
      have h1:=ES (P:=P) (Op.maxDepth-3) 3 kt _ _ _ (he k.1 k.2 a.1 a.2) (uD k) (uD a) ⟨_,hu,by rw [if_pos (by rfl)];rfl⟩ ⟨_,hu,by rw [if_pos (by rfl)];rfl⟩ w
      rw [show Op.maxDepth-3+3=Op.maxDepth by decide] at h1
      have h2:((k.1==a.1)&&((k.2==a.2)&&true))=decide (k=a):=by
        rw [Bool.eq_iff_iff,decide_eq_true_iff,Prod.ext_iff]
        cases h3:k.1==a.1<;>simp_all
      rw [h2] at h1
      unfold Instr.findAsking fE
      rw [h.1]
      simp only [Op.equal,Sem.run_bind,h1,Result.andThen]
      cases hd:decide (k=a) with
      |true=>simp
      |false=>
       simp only [cond_false,if_neg (show ¬(false=true) by decide)]
       rw [ih es (o+1) h.2,lD k r (0+1)]
       cases fE k r 0 with
       |none=>rfl
       |some j=>simp;rw [show j+(o+1)=j+1+o by omega]
  have hn:Instr.findNow (.array 2 ie) (uD k) es 0=none∨es=[]:=by
    cases es with
    |nil=>exact .inr rfl
    |cons e es=>left;rfl
  rcases hn with hn|rfl
  ·unfold Instr.findKey
   simp only [Sem.run_bind,run_underlying hu,Result.andThen,hn]
   rw [hask ks es 0 h];simp
  ·cases ks with
   |nil=>simp [Instr.findKey,run_underlying hu,Result.andThen,Instr.findNow,fE]
   |cons a r=>cases h
theorem Q8 {P:Program} {t n:Nat} (h:(P.info? t).map (·.size)=some n) (w:World):(sizeOf t).run P w= .ok n w:=by
  cases hi:P.info? t with
  |none=>simp [hi] at h
  |some i=>simp only [hi,Option.map_some,Option.some.injEq] at h;simp [sizeOf,typeInfo,hi,h]
theorem R6 {P:Program} {t:TypeId} {D:TypeDesc} (hu:P.underlying t=some D) (hD:TypeDesc.agg D=false) (w:World):(isAgg t).run P w= .ok false w:=by rw [sZ hu,hD]
theorem ND {objs:Ob} {base:Nat→Option (List AV)} {id:Nat} {c:List AV} (h:ndO objs base) (hid:lay objs base id=none):ndO ((id,c)::objs) base:=by
  have hn:id∉objs.map (·.1)∧base id=none:=by
    constructor
    ·intro hm
     obtain ⟨p,hp,rfl⟩:=List.mem_map.1 hm
     obtain ⟨k,hk⟩:=List.mem_iff_getElem?.1 hp
     rw [cS h.1 hk] at hid;cases hid
    ·by_cases hm:id∈objs.map (·.1)
     ·exact h.2 id hm
     ·rw [gA hm] at hid;exact hid
  refine ⟨List.nodup_cons.2 ⟨hn.1,h.1⟩,fun i hi=>?_⟩
  rcases List.mem_cons.1 hi with rfl|hi
  ·exact hn.2
  ·exact h.2 i hi
section
variable {P:Program} {n:Nat} {ops:Array Oper} {o:Oper} {rest:List Oper} {Q:Es→Prop} {d:Nat} {t kt et:TypeId} {x y z:Operand} {κ β:Type} [DecidableEq κ] {ke:κ→Value} {vf:β→AV} {S S1:List (κ×β)} {fr:Fr} {loc:List (Nat×List AV)} {objs:Ob} {base:Nat→Option (List AV)} {id:Nat}
theorem QD (q:Nat) {k:κ} (z1:β) {z0:Value} (hS:∀k,cO k S=cO k S1) (K:KeyT P kt ke) (ht:P.underlying t=some (.map kt et)) (hz:(P.info? et).map (·.zero)=some (some z0)) (hzv:∀G w,RelV P G w (vf z1) z0) (hfl:∀v,(vf v).flat=true) (hy:∀(G:Gh) a w,RelSt P G n ((⟨fr,[],loc,objs,base⟩:Es).st []) a w→a.eval y=ke k)
    (g:aC P n ops rest ⟨(d,[],.tuple [vf ((cO k S1).getD z1),.lit (.bool (cO k S1).isSome)])::fr,[],loc,objs,base⟩ Q) (hj:objs[q]? =some (id,aV ke vf S):=by rfl) (ho:o.op= .lookup t x y true:=by rfl) (hx:evE fr [] x= .gmap id:=by rfl)
    (hC:bH ops fr o=some []:=by rfl) (hd:o.dst=some d:=by rfl) (hn:Nat.blt d n=true:=by rfl):aC P n ops (o::rest) ⟨fr,[],loc,objs,base⟩ Q:=by
  rw [←hS] at g
  exact QC q z1 K ht hz hzv hfl hy g hj ho hx hC hd hn
theorem PK {G:Gh} {a:Act} {w:World} {r:Nat} {k l:Int} (hy:bX fr [] r= .agg [zI k,zI l]):RelSt P G n ((⟨fr,[],loc,objs,base⟩:Es).st []) a w→a.eval (.tmp r)=uD (k,l):=
  fun hr=>hr.evAgg (bK (e:=⟨fr,[],loc,objs,base⟩) (x:= .tmp r) hy) ⟨_,rfl⟩ rfl
omit [DecidableEq κ] in
theorem N8 {s:St} {c:Call} {id m:Nat} (ho:o.op= .call c) (hcl:c.callee= .builtin .len) (ha:c.args=#[x]) (hat:c.argTypes=#[t]) (ht:P.underlying t=some (.map kt et)) (hx:s.eval x= .gmap id) (hc:s.mem id=some (aV ke vf S)) (hm:S.length=m):aH P n s o d (.lit (.int .i64 (m:Int))):=by
  intro G a w hr
  obtain ⟨b0,hb0,hav⟩:=hr.evM hx
  obtain ⟨b',hb',hX⟩:=hr.mem.obj id _ hc
  rw [hb0] at hb'
  cases hb'
  obtain ⟨es,clock,hh,ho1,ht1,he1,he4⟩:=hX.mapG
  have hsz:es.size=m:=by
    have:=congrArg List.length he1
    simp [iX] at this
    rw [←hm];exact this
  refine ⟨_,bZ _,fun w' hw=>?_⟩
  have hh':w'.heap[b0]? =some (.map es clock):=(hw.block b0 (Array.getElem?_eq_some_iff.1 hh).1).trans hh
  have h1:∀ty,(Builtin.len_ #[t] ty #[.map (some b0)]).run P w'= .ok (.int .i64 (m:Int)) w':=by
    intro ty
    simp [Builtin.len_,run_underlying ht,MapKept.run_getObj_map hh',goInt,Result.andThen,hsz]
  simp [execOp,ho,resolve,hcl,ha,hat,hav,invoke,builtin,h1]
omit [DecidableEq κ] in
theorem UH (q m:Nat) {c:Call} (ht:P.underlying t=some (.map kt et)) (hm:S.length=m)
    (g:aC P n ops rest ⟨(d,[],.lit (.int .i64 (m:Int)))::fr,[],loc,objs,base⟩ Q) (hj:objs[q]? =some (id,aV ke vf S):=by rfl) (ho:o.op= .call c:=by rfl) (hcl:c.callee= .builtin .len:=by rfl) (ha:c.args=#[x]:=by rfl) (hat:c.argTypes=#[t]:=by rfl) (hx:evE fr [] x= .gmap id:=by rfl)
    (hC:bH ops fr o=some []:=by rfl) (hd:o.dst=some d:=by rfl) (hn:Nat.blt d n=true:=by rfl):aC P n ops (o::rest) ⟨fr,[],loc,objs,base⟩ Q:=
  aC.nd fun hnd=>rd (N8 ho hcl ha hat ht (bK (e:=⟨fr,[],loc,objs,base⟩) hx) (cS hnd.1 hj) hm) g hC hd hn rfl
end
end
section
open Go.RowKit
def gH (f:Fr) (s:Nat):Bool:=f.any fun p=>Nat.beq p.1 s
theorem vR (A B:Fr) (s:Nat):aY (A++B) s=bif gH A s then aY A s else aY B s:=by
  induction A with
  |nil=>rfl
  |cons p r ih=>
   obtain ⟨j,x⟩:=p
   simp only [List.cons_append,aY,gH,List.any_cons]
   cases h:Nat.beq j s with
   |true=>rfl
   |false=>simpa [gH] using ih
theorem AB :∀{A B:Fr},a7 A=true→a7 B=true→a7 (A++B)=true
  |[],_,_,h=>h
  |(_,[],_)::r,_,h,k=>AB (A:=r) h k
  |(_,_::_,_)::_,_,h,_=>by cases h
theorem NF {d:Nat}:∀{A B:Fr},nV d A=true→nV d B=true→nV d (A++B)=true
  |[],_,_,h=>h
  |p::r,B,h,k=>by
   obtain ⟨a,c,v⟩:=p
   simp only [List.cons_append,nV] at h ⊢
   cases e:v.notL d with
   |true=>rw [e] at h;exact NF (A:=r) h k
   |false=>rw [e] at h;cases h
abbrev Lo :=List (Nat×List AV)
theorem sY (A B:Lo) (k:Nat):a6 (A++B) k=(match a6 A k with|some c=>some c|none=>a6 B k):=by
  induction A with
  |nil=>rfl
  |cons p r ih=>
   obtain ⟨j,x⟩:=p
   simp only [List.cons_append,a6]
   split
   ·rfl
   ·exact ih
structure WE where
  rd:Fr
  wr:Fr
  rl:Lo
  wl:Lo
  al:Option Nat
  ro:Bool
  wo:Option Ob
def lkW {β:Type} (g:WE→Option β) (x:β) (L:Nat→Bool):Nat→List WE→β
  |_,[]=>x
  |i,w::r=>lkW g (bif L i then (g w).getD x else x) L (i+1) r
def frW (L:Nat→Bool):Fr→Nat→List WE→Fr
  |fr,_,[]=>fr
  |fr,i,w::r=>frW L (bif L i then w.wr++fr else fr) (i+1) r
def loW (L:Nat→Bool):Lo→Nat→List WE→Lo
  |lo,_,[]=>lo
  |lo,i,w::r=>loW L (bif L i then w.wl++lo else lo) (i+1) r
def gS (s:Nat) (w:WE):Option (Cnd×AV):=bif gH w.wr s then some (aY w.wr s) else none
def gL (k:Nat) (w:WE):Option (Option (List AV)):=(a6 w.wl k).map some
theorem d6 (L:Nat→Bool) (s:Nat):∀(W:List WE) (fr:Fr) (i:Nat),aY (frW L fr i W) s=lkW (gS s) (aY fr s) L i W
  |[],_,_=>rfl
  |w::r,fr,i=>by
   simp only [frW,lkW]
   rw [d6 L s r]
   cases L i with
   |true=>
    simp only [cond_true];rw [vR];unfold gS
    cases gH w.wr s<;>rfl
   |false=>rfl
theorem dL (L:Nat→Bool) (k:Nat):∀(W:List WE) (lo:Lo) (i:Nat),a6 (loW L lo i W) k=lkW (gL k) (a6 lo k) L i W
  |[],_,_=>rfl
  |w::r,lo,i=>by
   simp only [loW,lkW]
   rw [dL L k r]
   cases L i with
   |true=>
    simp only [cond_true];rw [sY];unfold gL
    cases a6 w.wl k<;>rfl
   |false=>rfl
section
variable {β:Type} {g:WE→Option β}
theorem kY {L L':Nat→Bool}:∀{W:List WE} {x:β} {i:Nat},(∀j w,W[j]? =some w→(g w).isSome=true→L (i+j)=L' (i+j))→lkW g x L i W=lkW g x L' i W
  |[],_,_,_=>rfl
  |w::r,x,i,h=>by
   simp only [lkW]
   have h0:(bif L i then (g w).getD x else x)=bif L' i then (g w).getD x else x:=by
     cases hs:g w with
     |some v=>have:=h 0 w rfl (by rw [hs];rfl);rw [Nat.add_zero] at this;rw [this]
     |none=>cases L i<;>cases L' i<;>rfl
   rw [h0]
   exact kY fun j w' hw hs=>by have:=h (j+1) w' hw hs;rw [show i+1+j=i+(j+1) by omega];exact this
theorem vW :∀{W:List WE} {x:β} {i:Nat} {L:Nat→Bool},(∀j w',W[j]? =some w'→(g w').isSome=true→L (i+j)=false)→lkW g x L i W=x
  |[],_,_,_,_=>rfl
  |w::r,x,i,L,h=>by
   simp only [lkW]
   have:(bif L i then (g w).getD x else x)=x:=by
     cases hs:g w with
     |some v=>have:=h 0 w rfl (by rw [hs];rfl);rw [Nat.add_zero] at this;rw [this];rfl
     |none=>cases L i<;>rfl
   rw [this]
   exact vW fun j w' hw hs=>by have:=h (j+1) w' hw hs;rw [show i+1+j=i+(j+1) by omega];exact this
theorem GV {L:Nat→Bool}:∀{W:List WE} {x v:β} {i m:Nat} {w:WE},W[m]? =some w→g w=some v→L (i+m)=true→(∀j w',m<j→W[j]? =some w'→(g w').isSome=true→L (i+j)=false)→lkW g x L i W=v
  |[],_,_,_,_,_,h,_,_,_=>by simp at h
  |w0::r,x,v,i,0,w,h,hs,hL,hj=>by
   simp only [List.getElem?_cons_zero,Option.some.injEq] at h;subst h
   simp only [lkW]
   rw [Nat.add_zero] at hL
   rw [hL,hs]
   exact vW fun j w' hw hs=>by have:=hj (j+1) w' (by omega) hw hs;rw [show i+1+j=i+(j+1) by omega];exact this
  |w0::r,x,v,i,m+1,w,h,hs,hL,hj=>by
   simp only [lkW]
   exact GV (m:=m) h hs (by rw [show i+1+m=i+(m+1) by omega];exact hL) fun j w' hm hw hs'=>by
     have:=hj (j+1) w' (by omega) hw hs';rw [show i+1+j=i+(j+1) by omega];exact this
theorem GW :∀{W:List WE} {x:β} {i k:Nat},lkW g x (fun _=>true) i (W.take k)=lkW g x (fun j=>decide (j<i+k)) i W
  |[],x,i,k=>by simp [lkW]
  |w::r,x,i,0=>by
   rw [List.take_zero]
   have e:=kY (g:=g) (L:=fun j=>decide (j<i+0)) (L':=fun _=>false) (W:=w::r) (x:=x) (i:=i) fun j w' _ _=>by simp
   rw [e];exact (vW (L:=fun _=>false) fun _ _ _ _=>rfl).symm
  |w::r,x,i,k+1=>by
   rw [List.take_succ_cons]
   simp only [lkW]
   rw [GW]
   have e:decide (i<i+(k+1))=true:=by simp
   rw [e]
   exact kY fun j w' _ _=>by simp only [decide_eq_decide];omega
theorem B3 (L:Nat→Bool):∀(A B:List WE) (x:β) (i:Nat),lkW g x L i (A++B)=lkW g (lkW g x L i A) L (i+A.length) B
  |[],_,_,_=>rfl
  |w::r,B,x,i=>by
   simp only [List.cons_append,lkW,List.length_cons]
   rw [B3 L r B,show i+1+r.length=i+(r.length+1) by omega]
end
theorem EU (L:Nat→Bool):∀(A B:List WE) (fr:Fr) (i:Nat),frW L fr i (A++B)=frW L (frW L fr i A) (i+A.length) B
  |[],_,_,_=>rfl
  |w::r,B,fr,i=>by
   simp only [List.cons_append,frW,List.length_cons]
   rw [EU L r B,show i+1+r.length=i+(r.length+1) by omega]
theorem EY (L:Nat→Bool):∀(A B:List WE) (lo:Lo) (i:Nat),loW L lo i (A++B)=loW L (loW L lo i A) (i+A.length) B
  |[],_,_,_=>rfl
  |w::r,B,lo,i=>by
   simp only [List.cons_append,loW,List.length_cons]
   rw [EY L r B,show i+1+r.length=i+(r.length+1) by omega]
theorem mZ {L:Nat→Bool}:∀{W:List WE} {fr:Fr} {i:Nat},a7 fr=true→(∀w∈W,a7 w.wr=true)→a7 (frW L fr i W)=true
  |[],_,_,h,_=>h
  |w::r,fr,i,h,k=>by
   simp only [frW]
   refine mZ (W:=r) ?_ fun w' hw=>k w' (List.mem_cons_of_mem _ hw)
   cases L i with
   |true=>exact AB (k w (List.mem_cons_self ..)) h
   |false=>exact h
theorem GY {L:Nat→Bool} {d:Nat}:∀{W:List WE} {fr:Fr} {i:Nat},nV d fr=true→(∀j w,W[j]? =some w→L (i+j)=true→nV d w.wr=true)→nV d (frW L fr i W)=true
  |[],_,_,h,_=>h
  |w::r,fr,i,h,k=>by
   simp only [frW]
   refine GY (W:=r) ?_ fun j w' hw hL=>k (j+1) w' hw (by rw [show i+(j+1)=i+1+j by omega];exact hL)
   cases e:L i with
   |true=>exact NF (k 0 w rfl e) h
   |false=>exact h
def r7 (o:Oper):List Nat:=(o.after.toList.filter (Region.binds .any)).map (·.on)
def FV :List Oper→List (List Nat)→List (List Nat)
  |[],acc=>acc
  |o::r,acc=>FV r (acc++[(r7 o++(r7 o).flatMap fun k=>acc.getD k []).eraseDups])
def w5 (dep:List (List Nat)):Nat→List Oper→Bool
  |_,[]=>true
  |i,o::r=>(r7 o).all (fun k=>Nat.blt k i)&&(dep.getD i []).all (fun x=>(r7 o).any fun k=>Nat.beq k x||(dep.getD k []).contains x)&&w5 dep (i+1) r
def IO (dep:List (List Nat)) (m:Nat):Nat→List Oper→Bool
  |_,[]=>true
  |i,_::r=>(Nat.blt i m||(List.range m).all fun x=>(dep.getD i []).contains x)&&IO dep m (i+1) r
def i6 (f:Lo) (k:Nat):Bool:=f.any fun p=>Nat.beq p.1 k
def dN (a b:WE):Bool:=a.wr.any (fun p=>gH b.rd p.1||gH b.wr p.1)||(a.rd.any (fun p=>gH b.wr p.1)||(a.wl.any (fun p=>i6 b.rl p.1||i6 b.wl p.1)||(a.rl.any (fun p=>i6 b.wl p.1)||(a.wo.isSome&&(b.ro||b.wo.isSome)||a.ro&&b.wo.isSome))))
def QJ (dep:List (List Nat)) (W:List WE):Bool:=(List.range W.length).all fun j=>(List.range j).all fun i=>!(match W[i]?,W[j]? with|some a,some b=>dN a b|_,_=>false)||(dep.getD j []).contains i
def okA (d:Nat) (w:WE):Bool:=nV d w.wr&&!i6 w.wl d
def QK (dep:List (List Nat)) (fr:Fr) (lo:Lo) (W:List WE):Bool:=(List.range W.length).all fun j=>match W[j]? with
  |some w=>match w.al with
   |some d=>nV d fr&&!i6 lo d&&(List.range W.length).all fun i=>Nat.beq i j||(match W[i]? with|some w'=>okA d w'|none=>true)||(dep.getD i []).contains j
   |none=>true
  |none=>true
theorem BN {dep:List (List Nat)}:∀{l:List Oper} {i j:Nat} {o:Oper},w5 dep i l=true→l[j]? =some o→(∀k∈r7 o,k<i+j)∧∀x∈dep.getD (i+j) [],∃k∈r7 o,k=x∨x∈dep.getD k []
  |[],_,_,_,_,h=>by simp at h
  |o'::r,i,0,o,h,ho=>by
   simp only [List.getElem?_cons_zero,Option.some.injEq] at ho;subst ho
   simp only [w5,Bool.and_eq_true,List.all_eq_true] at h
   refine ⟨fun k hk=>Nat.le_of_ble_eq_true (h.1.1 k hk),fun x hx=>?_⟩
   have:=h.1.2 x hx
   rw [List.any_eq_true] at this
   obtain ⟨k,hk,h2⟩:=this
   rw [Bool.or_eq_true] at h2
   refine ⟨k,hk,h2.imp Nat.eq_of_beq_eq_true fun h=>List.contains_iff_mem.1 h⟩
  |o'::r,i,j+1,o,h,ho=>by
   simp only [w5,Bool.and_eq_true] at h
   have:=BN (j:=j) h.2 ho
   rw [show i+1+j=i+(j+1) by omega] at this
   exact this
theorem O7 {dep:List (List Nat)} {m:Nat}:∀{l:List Oper} {i j:Nat} {o:Oper},IO dep m i l=true→l[j]? =some o→m≤i+j→∀x,x<m→x∈dep.getD (i+j) []
  |[],_,_,_,_,h,_=>by simp at h
  |o'::r,i,0,o,h,ho,hm=>by
   simp only [IO,Bool.and_eq_true,Bool.or_eq_true,List.all_eq_true] at h
   intro x hx
   rcases h.1 with h1|h1
   ·have:=Nat.le_of_ble_eq_true h1;omega
   ·exact List.contains_iff_mem.1 (h1 x (List.mem_range.2 hx))
  |o'::r,i,j+1,o,h,ho,hm=>by
   simp only [IO,Bool.and_eq_true] at h
   have:=O7 (j:=j) h.2 ho (by omega)
   rw [show i+1+j=i+(j+1) by omega] at this
   exact this
theorem O6 {dep:List (List Nat)} {W:List WE} {i j:Nat} {a b:WE} (h:QJ dep W=true) (hi:W[i]? =some a) (hj:W[j]? =some b) (hij:i<j) (hc:dN a b=true):i∈dep.getD j []:=by
  unfold QJ at h
  rw [List.all_eq_true] at h
  have h1:=h j (List.mem_range.2 (List.getElem?_eq_some_iff.1 hj).1)
  rw [List.all_eq_true] at h1
  have h2:=h1 i (List.mem_range.2 hij)
  rw [hi,hj] at h2
  simp only [hc,Bool.not_true,Bool.false_or] at h2
  exact List.contains_iff_mem.1 h2
theorem U6 {dep:List (List Nat)} {fr:Fr} {lo:Lo} {W:List WE} {j d:Nat} {w:WE} (h:QK dep fr lo W=true) (hj:W[j]? =some w) (hd:w.al=some d):nV d fr=true∧i6 lo d=false∧∀i w',i≠j→W[i]? =some w'→(okA d w'=true)∨j∈dep.getD i []:=by
  unfold QK at h
  rw [List.all_eq_true] at h
  have h1:=h j (List.mem_range.2 (List.getElem?_eq_some_iff.1 hj).1)
  rw [hj] at h1
  simp only [hd,Bool.and_eq_true,Bool.not_eq_true',List.all_eq_true] at h1
  obtain ⟨⟨a,b⟩,c⟩:=h1
  refine ⟨a,b,fun i w' hne hi=>?_⟩
  have:=c i (List.mem_range.2 (List.getElem?_eq_some_iff.1 hi).1)
  rw [hi] at this
  simp only [Bool.or_eq_true] at this
  rcases this with (h|h)|h
  ·exact absurd (Nat.eq_of_beq_eq_true h) hne
  ·exact .inl h
  ·exact .inr (List.contains_iff_mem.1 h)
theorem MT {f:Fr} {s:Nat}:gH f s=true↔∃p∈f,p.1=s:=by
  unfold gH
  rw [List.any_eq_true]
  exact ⟨fun ⟨p,h,e⟩=>⟨p,h,Nat.eq_of_beq_eq_true e⟩,fun ⟨p,h,e⟩=>⟨p,h,by rw [e];exact Nat.beq_refl _⟩⟩
theorem MS {f:Lo} {s:Nat}:i6 f s=true↔∃p∈f,p.1=s:=by
  unfold i6
  rw [List.any_eq_true]
  exact ⟨fun ⟨p,h,e⟩=>⟨p,h,Nat.eq_of_beq_eq_true e⟩,fun ⟨p,h,e⟩=>⟨p,h,by rw [e];exact Nat.beq_refl _⟩⟩
theorem kX :∀{f:Lo} {s:Nat},i6 f s=(a6 f s).isSome
  |[],_=>rfl
  |(j,x)::r,s=>by
   simp only [i6,List.any_cons,a6]
   by_cases e:j=s
   ·subst e;simp [Nat.beq_refl]
   ·have:Nat.beq j s=false:=by cases h:Nat.beq j s with|false=>rfl|true=>exact absurd (Nat.eq_of_beq_eq_true h) e
    rw [if_neg e,this,Bool.false_or]
    exact kX (f:=r)
theorem HK {α:Type} {f:List α} {p:α→Bool} {x:α} (h:x∈f) (hp:p x=true):f.any p=true:=List.any_eq_true.2 ⟨x,h,hp⟩
theorem uZ {a b:WE} {s:Nat} (h1:gH a.wr s=true) (h2:gH b.rd s=true∨gH b.wr s=true):dN a b=true:=by
  obtain ⟨p,hp,e⟩:=MT.1 h1
  unfold dN
  rw [HK hp (by rw [e];rcases h2 with h|h<;>rw [h]<;>simp)];rfl
theorem MA {a b:WE} {s:Nat} (h1:gH a.rd s=true) (h2:gH b.wr s=true):dN a b=true:=by
  obtain ⟨p,hp,e⟩:=MT.1 h1
  unfold dN
  rw [HK (f:=a.rd) hp (by rw [e];exact h2)];simp
theorem uX {a b:WE} {s:Nat} (h1:i6 a.wl s=true) (h2:i6 b.rl s=true∨i6 b.wl s=true):dN a b=true:=by
  obtain ⟨p,hp,e⟩:=MS.1 h1
  unfold dN
  rw [HK (f:=a.wl) hp (by rw [e];rcases h2 with h|h<;>rw [h]<;>simp)];simp
theorem L8 {a b:WE} {s:Nat} (h1:i6 a.rl s=true) (h2:i6 b.wl s=true):dN a b=true:=by
  obtain ⟨p,hp,e⟩:=MS.1 h1
  unfold dN
  rw [HK (f:=a.rl) hp (by rw [e];exact h2)];simp
theorem uY {a b:WE} (h1:a.wo.isSome=true) (h2:b.ro=true∨b.wo.isSome=true):dN a b=true:=by
  unfold dN
  rw [h1];rcases h2 with h|h<;>rw [h]<;>simp
theorem L9 {a b:WE} (h1:a.ro=true) (h2:b.wo.isSome=true):dN a b=true:=by
  unfold dN
  rw [h1,h2];simp
def gI (T:Fr):Fr→Prop
  |[]=>True
  |p::r=>p.2=aY T p.1∧gI T r
theorem G6 {T:Fr}:∀{rd:Fr} {s:Nat},gI T rd→gH rd s=true→aY rd s=aY T s
  |[],_,_,h=>by cases h
  |(j,x)::r,s,h,hs=>by
   simp only [aY]
   cases e:Nat.beq j s with
   |true=>have:=Nat.eq_of_beq_eq_true e;subst this;exact h.1
   |false=>
    refine G6 h.2 ?_
    simpa [gH,e] using hs
theorem wU {T:Fr} (hT:a7 T=true):∀{rd:Fr},gI T rd→a7 rd=true
  |[],_=>rfl
  |(j,x)::r,h=>by
   have h1:=sS hT j
   have h2:x=aY T j:=h.1
   obtain ⟨c,v⟩:=x
   rw [←h2] at h1
   cases (show c=[] from h1)
   exact wU (rd:=r) hT h.2
def oJ (Y:Lo):Lo→Prop
  |[]=>True
  |p::r=>a6 Y p.1=some p.2∧oJ Y r
theorem G9 {Y:Lo}:∀{rl:Lo} {s:Nat},oJ Y rl→i6 rl s=true→a6 rl s=a6 Y s
  |[],_,_,h=>by cases h
  |(j,x)::r,s,h,hs=>by
   simp only [a6]
   by_cases e:j=s
   ·subst e;rw [if_pos rfl];exact h.1.symm
   ·have:Nat.beq j s=false:=by cases h:Nat.beq j s with|false=>rfl|true=>exact absurd (Nat.eq_of_beq_eq_true h) e
    rw [if_neg e]
    exact G9 h.2 (by simpa [i6,this] using hs)
section
variable {P:Program} {n:Nat} {ops:Array Oper} {base:Nat→Option (List AV)} {o:Oper} {QE:Exit→Es→Prop} {d i r:Nat} {T rd wr:Fr} {W:List WE} {Y rl:Lo} {O:Ob} {K:Fr→Lo→Ob→List WE→Prop} {v u:AV}
def LV (P:Program) (n:Nat) (ops:Array Oper) (base:Nat→Option (List AV)) (O:Ob) (o:Oper) (w:WE):Prop:=
  ∀(fr:Fr) (X:Lo) (O':Ob),a7 fr=true→(w.ro=true→O'=O)→(∀d,w.al=some d→nV d fr=true∧a6 X d=none)→
   aC P n ops [o] ⟨w.rd++fr,[],w.rl++X,O',base⟩ fun e'=>∃X',e'=⟨w.wr++(w.rd++fr),[],X',w.wo.getD O',base⟩∧∀k,a6 X' k=a6 (w.wl++(w.rl++X)) k
def b6 (P:Program) (n:Nat) (ops:Array Oper) (base:Nat→Option (List AV)):Nat→Nat→Fr→Lo→Ob→List WE→(Fr→Lo→Ob→List WE→Prop)→Prop
  |_,0,T,Y,O,W,K=>K T Y O W
  |i,r+1,T,Y,O,W,K=>∃w o,ops[i]? =some o∧gI T w.rd∧oJ Y w.rl∧a7 w.wr=true∧LV P n ops base O o w∧b6 P n ops base (i+1) r (w.wr++T) (w.wl++Y) (w.wo.getD O) (W++[w]) K
theorem b6.out {fr0:Fr} {lo0:Lo} {O0:Ob}:∀{r i:Nat} {T:Fr} {Y:Lo} {O:Ob} {W:List WE},b6 P n ops base i r T Y O W K→T=frW (fun _=>true) fr0 0 W→Y=loW (fun _=>true) lo0 0 W→O=lkW (·.wo) O0 (fun _=>true) 0 W→i=W.length→
    ∃V,V.length=r∧K (frW (fun _=>true) fr0 0 (W++V)) (loW (fun _=>true) lo0 0 (W++V)) (lkW (·.wo) O0 (fun _=>true) 0 (W++V)) (W++V)∧∀j w,V[j]? =some w→∃o,ops[i+j]? =some o∧gI (frW (fun _=>true) fr0 0 ((W++V).take (i+j))) w.rd∧
     oJ (loW (fun _=>true) lo0 0 ((W++V).take (i+j))) w.rl∧a7 w.wr=true∧LV P n ops base (lkW (·.wo) O0 (fun _=>true) 0 ((W++V).take (i+j))) o w
  |0,i,T,Y,O,W,h,hT,hY,hO,hi=>⟨[],rfl,by rw [List.append_nil,←hT,←hY,←hO];exact h,fun j w hw=>by simp at hw⟩
  |r+1,i,T,Y,O,W,⟨w0,o,h1,h2,h2',h3,h4,h5⟩,hT,hY,hO,hi=>by
   obtain ⟨V,e1,e2,e3⟩:=b6.out (fr0:=fr0) (lo0:=lo0) (O0:=O0) h5 (by rw [EU,←hT];rfl) (by rw [EY,←hY];rfl) (by rw [B3,←hO];rfl) (by simp [hi])
   refine ⟨w0::V,by simp [e1],by simpa using e2,fun j w hw=>?_⟩
   match j with
   |0=>
    simp only [List.getElem?_cons_zero,Option.some.injEq] at hw;subst hw
    refine ⟨o,h1,?_,?_,h3,?_⟩
    ·rw [Nat.add_zero,hi,List.take_left,←hT];exact h2
    ·rw [Nat.add_zero,hi,List.take_left,←hY];exact h2'
    ·rw [Nat.add_zero,hi,List.take_left,←hO];exact h4
   |j+1=>
    obtain ⟨o',a1,a2,a3,a4,a5⟩:=e3 j w hw
    rw [show i+1+j=i+(j+1) by omega] at a1 a2 a3 a5
    exact ⟨o',a1,by simpa using a2,by simpa using a3,a4,by simpa using a5⟩
theorem fU.same {fr fr':Fr} {lo lo':Lo} {O O':Ob} {G:Gh} {a:Act} {w:World} (h:fU P G n ⟨fr,[],lo,O,base⟩ a w) (e:∀s,aY fr s=aY fr' s) (e2:∀k,a6 lo k=a6 lo' k) (e3:O=O'):fU P G n ⟨fr',[],lo',O',base⟩ a w:=by
  subst e3
  refine ⟨⟨h.1.size,h.1.defers,fun i=>?_,fun k cells hk=>h.1.loc k cells ((e2 k).trans hk),h.1.mem⟩,h.2⟩
  have:=h.1.slot i
  rw [cD] at this ⊢
  unfold bX at this ⊢
  rw [←e i];exact this
def s5 (m:Nat) (L:Array Bool):Nat:=((List.range m).filter fun i=>!L.getD i false).length
theorem wO {m:Nat} {L:Array Bool}:s5 m L=0↔∀i,i<m→L.getD i false=true:=by
  unfold s5
  rw [List.length_eq_zero_iff,List.filter_eq_nil_iff]
  constructor
  ·intro h i hi
   have:=h i (List.mem_range.2 hi)
   simpa using this
  ·intro h i hi
   simp [h i (List.mem_range.1 hi)]
theorem FW {m i:Nat} {L:Array Bool} {k:Nat} (hi:i<m) (hL:L.getD i false=false) (hs:i<L.size) (h:s5 m L=k+1):s5 m (L.setIfInBounds i true)=k:=by
  have key:∀m,s5 m L=s5 m (L.setIfInBounds i true)+(if i<m then 1 else 0):=by
    intro m
    induction m with
    |zero=>simp [s5]
    |succ m ih=>
     unfold s5 at ih ⊢
     rw [List.range_succ,List.filter_append,List.filter_append,List.length_append,List.length_append,ih]
     by_cases e:m=i
     ·subst e
      have h1:(L.setIfInBounds m true).getD m false=true:=by simp [hs]
      simp only [List.filter_cons,hL,h1,List.filter_nil]
      simp
     ·have h1:(L.setIfInBounds i true).getD m false=L.getD m false:=getD_set_ne false (fun h=>e h.symm)
      simp only [List.filter_cons,h1,List.filter_nil]
      split<;>split<;>split<;>simp<;>omega
  have:=key m
  rw [if_pos hi] at this
  omega
theorem b6.sound {l:List Oper} {dep:List (List Nat)} {m t:Nat} {fr0:Fr} {lo0:Lo} {O0:Ob} {V:List WE} {Q:Exit→Act→World→Prop} (hlen:l.length=m+t) (hV:V.length=m) (h1:w5 dep 0 l=true) (h3:IO dep m 0 l=true) (h2:QJ dep V=true) (hA:QK dep fr0 lo0 V=true) (hf0:a7 fr0=true)
    (hat:∀j w,V[j]? =some w→∃o,l.toArray[j]? =some o∧gI (frW (fun _=>true) fr0 0 (V.take j)) w.rd∧oJ (loW (fun _=>true) lo0 0 (V.take j)) w.rl∧a7 w.wr=true∧LV P n l.toArray base (lkW (·.wo) O0 (fun _=>true) 0 (V.take j)) o w):
    ∀(k:Nat) (L:Array Bool),L.size=l.length→(∀i,m≤i→L.getD i false=false)→(∀i,L.getD i false=true→∀x∈dep.getD i [],L.getD x false=true)→s5 m L=k→
    ∀(G:Gh) (a:Act) (w:World),fU P G n ⟨frW (fun i=>L.getD i false) fr0 0 V,[],loW (fun i=>L.getD i false) lo0 0 V,lkW (·.wo) O0 (fun i=>L.getD i false) 0 V,base⟩ a w→Fix G w→
    (∀G' a' w',fU P G' n ⟨frW (fun _=>true) fr0 0 V,[],loW (fun _=>true) lo0 0 V,lkW (·.wo) O0 (fun _=>true) 0 V,base⟩ a' w'→Keep G w G' w'→wpAny P .any l.toArray Q t (List.replicate m true++List.replicate t false).toArray a' w')→wpAny P .any l.toArray Q (k+t) L a w:=by
  have hwf:∀w∈V,a7 w.wr=true:=fun w hw=>by
    obtain ⟨j,hj⟩:=List.mem_iff_getElem?.1 hw
    obtain ⟨_,_,_,_,h,_⟩:=hat j w hj
    exact h
  intro k
  induction k with
  |zero=>
   intro L hs hT hD hc G a w hr hfx hK
   rw [Nat.zero_add]
   have hall:=wO.1 hc
   have eL:L=(List.replicate m true++List.replicate t false).toArray:=by
     apply Array.ext
     ·simp [hs,hlen]
     ·intro i hi1 hi2
      have e1:L[i]=L.getD i false:=by simp [hi1]
      rw [e1]
      simp only [List.getElem_toArray]
      rcases Nat.lt_or_ge i m with h|h
      ·rw [hall i h,List.getElem_append_left (by simpa using h)];simp
      ·rw [hT i h,List.getElem_append_right (by simpa using h)];simp
   rw [eL]
   have hcg:∀{β:Type} {g:WE→Option β} {x:β},lkW g x (fun i=>L.getD i false) 0 V=lkW g x (fun _=>true) 0 V:=kY fun j w' hw _=>by
     have:=(List.getElem?_eq_some_iff.1 hw).1
     rw [hV] at this
     rw [Nat.zero_add]
     exact hall j this
   exact hK G a w (hr.same (fun s=>by rw [d6,d6];exact hcg) (fun k=>by rw [dL,dL];exact hcg) hcg) (Keep.refl _ _)
  |succ k ih=>
   intro L hs hT hD hc G a w hr hfx hK
   rw [show k+1+t=(k+t)+1 by omega]
   have hin:∀{i:Nat} {o:Oper},l.toArray[i]? =some o→(∀e∈o.after,Region.binds .any e=true→L.getD e.on false=true)→∀k∈r7 o,L.getD k false=true:=by
     intro i o _ h k hk
     unfold r7 at hk
     obtain ⟨e,he,rfl⟩:=List.mem_map.1 hk
     obtain ⟨h4,h5⟩:=List.mem_filter.1 he
     exact h e (by simpa using h4) h5
   refine ⟨fun e0=>?_,fun i hi=>?_⟩
   ·exfalso
    have hall:∀i,i<m→L.getD i false=true:=by
      intro i
      induction i using Nat.strongRecOn with
      |_ i ih2=>
       intro hi
       refine Classical.byContradiction fun hne=>?_
       have hLf:L.getD i false=false:=by simpa using hne
       have hil:i<l.length:=by omega
       have ho:l[i]? =some l[i]:=List.getElem?_eq_getElem hil
       have hp:=(BN h1 ho).1
       have:i∈Region.ready .any l.toArray L:=by
         rw [mem_ready]
         refine ⟨?_,l[i],by simp,fun e he hb=>?_⟩
         ·have:i<L.size:=by omega
          simpa [this] using hLf
         ·have hk:e.on∈r7 l[i]:=List.mem_map.2 ⟨e,List.mem_filter.2 ⟨by simpa using he,hb⟩,rfl⟩
          have:=hp _ hk
          rw [Nat.zero_add] at this
          exact ih2 _ this (by omega)
       rw [e0] at this;cases this
    rw [wO.2 hall] at hc;cases hc
   ·obtain ⟨hLt,o,ho,hpre⟩:=mem_ready.1 hi
    have hpreL:=hin ho hpre
    have hil:i<l.length:=by simpa using (Array.getElem?_eq_some_iff.1 ho).1
    have hLf:L.getD i false=false:=by
      have:i<L.size:=by omega
      simpa [this] using hLt
    have hol:l[i]? =some o:=by simpa using ho
    have hdep:∀x∈dep.getD i [],L.getD x false=true:=by
      intro x hx
      obtain ⟨k,hk,h⟩:=(BN h1 hol).2 x (by rw [Nat.zero_add];exact hx)
      rcases h with rfl|h
      ·exact hpreL _ hk
      ·exact hD k (hpreL _ hk) x h
    have him:i<m:=by
      refine Classical.byContradiction fun hge=>?_
      have:=O7 h3 hol (by omega)
      rw [wO.2 fun x hx=>hdep x (by have:=this x hx;rw [Nat.zero_add] at this;exact this)] at hc
      cases hc
    obtain ⟨wv,hw⟩:∃wv,V[i]? =some wv:=⟨_,List.getElem?_eq_getElem (by omega)⟩
    obtain ⟨o',ho',hrd,hrl,hwrf,hop⟩:=hat i wv hw
    rw [ho] at ho';cases ho'
    have hbefore:∀j w',V[j]? =some w'→j≠i→dN w' wv=true→dN wv w'=true→L.getD j false=decide (j<i):=by
      intro j w' hj hne c1 c2
      rcases Nat.lt_or_ge j i with hlt|hge
      ·rw [hdep j (O6 h2 hj hw hlt c1)];simp [hlt]
      ·have hgt:i<j:=by omega
       have hd:=O6 h2 hw hj hgt c2
       cases hLj:L.getD j false with
       |true=>rw [hD j hLj i hd] at hLf;cases hLf
       |false=>simp;omega
    have hpref:∀{β:Type} (g:WE→Option β) (x:β),(∀w':WE,(g w').isSome=true→dN w' wv=true∧dN wv w'=true)→lkW g x (fun _=>true) 0 (V.take i)=lkW g x (fun i=>L.getD i false) 0 V:=by
      intro β g x hg
      rw [GW]
      exact kY fun j w' hj hsj=>by
        rw [Nat.zero_add,Nat.zero_add]
        by_cases e:j=i
        ·subst e;rw [hLf];simp
        ·exact (hbefore j w' hj e (hg w' hsj).1 (hg w' hsj).2).symm
    have pX:∀{s:Nat} {w':WE},(gS s w').isSome=true→gH w'.wr s=true:=by
      intro s w' h
      unfold gS at h
      cases e:gH w'.wr s with|true=>rfl|false=>rw [e] at h;cases h
    have l2:∀{s:Nat} {w':WE},(gL s w').isSome=true→i6 w'.wl s=true:=by
      intro s w' h
      unfold gL at h
      rw [Option.isSome_map] at h
      rw [kX];exact h
    have hgetrd:∀s,gH wv.rd s=true→aY wv.rd s=aY (frW (fun i=>L.getD i false) fr0 0 V) s:=by
      intro s hs'
      rw [G6 hrd hs',d6,d6]
      exact hpref _ _ fun w' h=>⟨uZ (pX h) (.inl hs'),MA hs' (pX h)⟩
    have hgetrl:∀s,i6 wv.rl s=true→a6 wv.rl s=a6 (loW (fun i=>L.getD i false) lo0 0 V) s:=by
      intro s hs'
      rw [G9 hrl hs',dL,dL]
      exact hpref _ _ fun w' h=>⟨uX (l2 h) (.inl hs'),L8 hs' (l2 h)⟩
    have hrr:∀s,aY (wv.rd++frW (fun i=>L.getD i false) fr0 0 V) s=aY (frW (fun i=>L.getD i false) fr0 0 V) s:=by
      intro s
      rw [vR]
      cases e:gH wv.rd s with
      |true=>exact hgetrd s e
      |false=>rfl
    have hll:∀s,a6 (wv.rl++loW (fun i=>L.getD i false) lo0 0 V) s=a6 (loW (fun i=>L.getD i false) lo0 0 V) s:=by
      intro s
      rw [sY]
      cases e:a6 wv.rl s with
      |some c=>rw [←hgetrl s (by rw [kX,e];rfl),e]
      |none=>rfl
    have hfl:a7 (frW (fun i=>L.getD i false) fr0 0 V)=true:=mZ hf0 hwf
    have hrdf:a7 wv.rd=true:=wU (mZ hf0 fun w' hw'=>hwf w' (List.mem_of_mem_take hw')) hrd
    have hr2:=hr.same (fr':=wv.rd++frW (fun i=>L.getD i false) fr0 0 V) (lo':=wv.rl++loW (fun i=>L.getD i false) lo0 0 V) (fun s=>(hrr s).symm) (fun s=>(hll s).symm) rfl
    have:=hop _ (loW (fun i=>L.getD i false) lo0 0 V) (lkW (·.wo) O0 (fun i=>L.getD i false) 0 V) hfl (fun hro=>(hpref _ _ fun w' h=>⟨uY h (.inl hro),L9 hro h⟩).symm)
      (fun d hd=>by
        obtain ⟨b1,b2,b3⟩:=U6 hA hw hd
        have hno:∀j w',V[j]? =some w'→L.getD j false=true→okA d w'=true:=by
          intro j w' hj hL
          have hne:j≠i:=fun e=>by subst e;rw [hL] at hLf;cases hLf
          rcases b3 j w' hne hj with h|h
          ·exact h
          ·rw [hD j hL i h] at hLf;cases hLf
        refine ⟨GY b1 fun j w' hj hL=>?_,?_⟩
        ·have:=hno j w' hj (by rw [Nat.zero_add] at hL;exact hL)
         unfold okA at this
         rw [Bool.and_eq_true] at this;exact this.1
        ·rw [dL,vW,←Option.not_isSome_iff_eq_none,←kX,b2]
         ·simp
         ·intro j w' hj hsj
          rw [Nat.zero_add]
          cases hL:L.getD j false with
          |false=>rfl
          |true=>
           have:=hno j w' hj hL
           unfold okA at this
           rw [l2 hsj] at this
           simp at this)
      G a w (fun e a w=>match e with| .normal=>wpAny P .any l.toArray Q (k+t) (L.setIfInBounds i true) a w|e=>Q e a w) (RelE.of hr2.1 (AB hrdf hfl) hr2.2) hfx
      (fun e' G' a' w' hq hr' hk'=>by
        obtain ⟨X',rfl,hX'⟩:=hq
        have hset:∀j,(L.setIfInBounds i true).getD j false=(L.getD j false||Nat.beq j i):=by
          intro j
          by_cases e:j=i
          ·subst e
           have:j<L.size:=by omega
           simp [this,Nat.beq_refl]
          ·rw [getD_set_ne false (fun h=>e h.symm)]
           have:Nat.beq j i=false:=by cases h:Nat.beq j i with|false=>rfl|true=>exact absurd (Nat.eq_of_beq_eq_true h) e
           rw [this,Bool.or_false]
        have hlast:∀{β:Type} (g:WE→Option β) (x v:β),g wv=some v→(∀w':WE,(g w').isSome=true→dN w' wv=true∧dN wv w'=true)→lkW g x (fun j=>(L.setIfInBounds i true).getD j false) 0 V=v:=by
          intro β g x v hg hc
          refine GV (m:=i) hw hg (by rw [Nat.zero_add,hset,Nat.beq_refl,Bool.or_true]) fun j w' hj hwj hsj=>?_
          rw [Nat.zero_add,hset,hbefore j w' hwj (by omega) (hc w' hsj).1 (hc w' hsj).2]
          have:Nat.beq j i=false:=by cases h:Nat.beq j i with|false=>rfl|true=>have:=Nat.eq_of_beq_eq_true h;omega
          rw [this];simp;omega
        have hsame:∀{β:Type} (g:WE→Option β) (x:β),g wv=none→lkW g x (fun j=>(L.setIfInBounds i true).getD j false) 0 V=lkW g x (fun j=>L.getD j false) 0 V:=by
          intro β g x hg
          exact kY fun j w' hj hsj=>by
            rw [Nat.zero_add,hset]
            by_cases e2:j=i
            ·subst e2;rw [hw] at hj;cases hj;rw [hg] at hsj;cases hsj
            ·have:Nat.beq j i=false:=by cases h:Nat.beq j i with|false=>rfl|true=>exact absurd (Nat.eq_of_beq_eq_true h) e2
             rw [this,Bool.or_false]
        refine ih (L.setIfInBounds i true) (by simpa using hs) (fun j hj=>?_) (fun j hj x hx=>?_) (FW him hLf (by omega) hc) G' a' w' (hr'.same (fun s=>?_) (fun s=>?_) ?_) (hfx.keep hk') fun G2 a2 w2 hr2 hk2=>hK G2 a2 w2 hr2 (hk'.trans hk2)
        ·rw [getD_set_ne false (by omega)];exact hT j hj
        ·rw [hset] at hj ⊢
         rw [Bool.or_eq_true] at hj ⊢
         rcases hj with hj|hj
         ·exact .inl (hD j hj x hx)
         ·have:=Nat.eq_of_beq_eq_true hj;subst this
          exact .inl (hdep x hx)
        ·show aY (wv.wr++(wv.rd++frW (fun i=>L.getD i false) fr0 0 V)) s=_
         rw [vR,hrr,d6,d6]
         cases e:gH wv.wr s with
         |true=>
          rw [cond_true]
          exact (hlast (gS s) _ _ (by unfold gS;rw [e];rfl) fun w' h=>⟨uZ (pX h) (.inr e),uZ e (.inr (pX h))⟩).symm
         |false=>
          rw [cond_false]
          exact (hsame (gS s) _ (by unfold gS;rw [e];rfl)).symm
        ·rw [hX',sY,hll,dL,dL]
         cases e:a6 wv.wl s with
         |some c=>
          have e':i6 wv.wl s=true:=by rw [kX,e];rfl
          exact (hlast (gL s) _ _ (by unfold gL;rw [e];rfl) fun w' h=>⟨uX (l2 h) (.inr e'),uX e' (.inr (l2 h))⟩).symm
         |none=>exact (hsame (gL s) _ (by unfold gL;rw [e];rfl)).symm
        ·cases e:wv.wo with
         |some c=>exact (hlast (·.wo) _ _ e fun w' h=>⟨uY h (.inr (by rw [e];rfl)),uY (by rw [e];rfl) (.inr h)⟩).symm
         |none=>exact (hsame (·.wo) _ e).symm)
    unfold wpOp
    simp only [ho]
    simp only [wpList] at this
    split at this
    ·rename_i hw2
     rw [if_pos hw2]
     rcases this with h1|h1
     ·left
      unfold Oper.wp at h1 ⊢
      generalize (execOp a.eval o).run P w=r at h1 ⊢
      cases r with
      |ok nx w'=>cases nx<;>exact h1
      |halt x w'=>cases x<;>exact h1
     ·right;exact h1
    ·rename_i hw2
     rw [if_neg hw2];exact this
def UJ (l:List Oper) (m:Nat):Bool:=Nat.ble m l.length&&w5 (FV l []) 0 l&&IO (FV l []) m 0 l&&Region.seqB .any l.toArray (l.length-m) m (List.replicate m true++List.replicate (l.length-m) false).toArray
theorem b8 {l:List Oper} {fr:Fr} {lo:Lo} {O:Ob} {id:Nat} (m:Nat) (hB:UJ l m=true) (h:b6 P n l.toArray base 0 m fr lo O [] fun T Y O W=>(QJ (FV l []) W&&QK (FV l []) fr lo W)=true∧aC P n l.toArray (l.drop m) ⟨T,[],Y,O,base⟩ (QE .normal)) (hm:P.follows .mixedOrders=true:=by rfl) (hf:a7 fr=true:=by rfl):CWp P n (.region id l.toArray true) ⟨fr,[],lo,O,base⟩ QE:=by
  intro G a w K hr hfx hK
  refine wp_region_any hm ?_
  unfold UJ at hB
  simp only [Bool.and_eq_true] at hB
  obtain ⟨⟨⟨b1,b2⟩,b3⟩,b4⟩:=hB
  have hle:=Nat.le_of_ble_eq_true b1
  obtain ⟨V,e1,⟨e2,e3⟩,e4⟩:=b6.out (fr0:=fr) (lo0:=lo) (O0:=O) h rfl rfl rfl rfl
  simp only [List.nil_append,Nat.zero_add] at e2 e3 e4
  rw [Bool.and_eq_true] at e2
  obtain ⟨hr1,hk1⟩:fU P G n ⟨fr,[],lo,O,base⟩ a {w with drawn:=w.drawn+1}∧Keep G w G {w with drawn:=w.drawn+1}:=by
    obtain ⟨h1,h2⟩:=hr.1.later (rO w)
    exact ⟨⟨h1,hr.2⟩,h2⟩
  have e5:l.toArray.size=m+(l.length-m):=by simp;omega
  rw [e5]
  have hfl:a7 (frW (fun _=>true) fr 0 V)=true:=mZ hf fun w hw=>by
    obtain ⟨j,hj⟩:=List.mem_iff_getElem?.1 hw
    obtain ⟨_,_,_,_,h,_⟩:=e4 j w hj
    exact h
  have hrep:∀i,(Array.replicate (m+(l.length-m)) false).getD i false=false:=fun i=>by simp [Array.getElem?_replicate];split<;>rfl
  have h0:∀{β:Type} {g:WE→Option β} {x:β},lkW g x (fun i=>(Array.replicate (m+(l.length-m)) false).getD i false) 0 V=x:=vW fun j _ _ _=>hrep _
  refine b6.sound (t:=l.length-m) (by omega) e1 b2 b3 e2.1 e2.2 hf e4 m _ (by simp;omega) (fun i _=>hrep i) (fun i hi=>by rw [hrep] at hi;cases hi) ?_ G a _ (hr1.same (fun s=>by rw [d6,h0]) (fun s=>by rw [dL,h0]) h0.symm) (hfx.keep hk1) fun G' a' w' hr' hk'=>?_
  ·unfold s5
   rw [List.filter_eq_self.2 fun i _=>by rw [hrep];rfl]
   simp
  ·have e6:l.length-m=(l.drop m).length:=by simp
   have:=e3 G' a' w' K (RelE.of hr'.1 hfl hr'.2) ((hfx.keep hk1).keep hk') fun e' G2 a2 w2 hq hr2 hk2=>hK _ _ _ _ _ hq hr2 (hk1.trans (hk'.trans hk2))
   rw [e6] at b4 ⊢
   exact wpAny_of_seq (l.drop m) m _ a' w' (fun j=>by simp) b4 this
theorem b6.nil (h:K T Y O W):b6 P n ops base i 0 T Y O W K:=h
theorem cfw (ho:ops[i]? =some o) (rd:Fr) (rl:Lo) (ro:Bool) (hr:gI T rd) (hl:oJ Y rl) (h:∀fr X O',a7 fr=true→(ro=true→O'=O)→aC P n ops [o] ⟨rd++fr,[],rl++X,O',base⟩ fun e'=>e'=⟨wr++(rd++fr),[],rl++X,O',base⟩) (k:b6 P n ops base (i+1) r (wr++T) Y O (W++[⟨rd,wr,rl,[],none,ro,none⟩]) K) (hw:a7 wr=true:=by rfl):b6 P n ops base i (r+1) T Y O W K:=
  ⟨⟨rd,wr,rl,[],none,ro,none⟩,o,ho,hr,hl,hw,fun fr X O' hf hO _=>by
    intro G a w K' hr hfx hK
    exact h fr X O' hf hO G a w K' hr hfx fun e' G' a' w' hq=>hK e' G' a' w' ⟨_,hq,fun _=>rfl⟩,k⟩
theorem cf1 (ho:ops[i]? =some o) (rd:Fr) (rl:Lo) (hr:gI T rd) (hl:oJ Y rl) (h:∀fr X O',a7 fr=true→aC P n ops [o] ⟨rd++fr,[],rl++X,O',base⟩ fun e'=>e'=⟨(d,[],v)::(rd++fr),[],rl++X,O',base⟩) (k:b6 P n ops base (i+1) r ((d,[],v)::T) Y O (W++[⟨rd,[(d,[],v)],rl,[],none,false,none⟩]) K):b6 P n ops base i (r+1) T Y O W K:=
  cfw (wr:=[(d,[],v)]) ho rd rl false hr hl (fun fr X O' hf _=>h fr X O' hf) k
theorem cf2 {s:Nat} (ho:ops[i]? =some o) (rd:Fr) (rl:Lo) (hr:gI T rd) (hl:oJ Y rl) (h:∀fr X O',a7 fr=true→aC P n ops [o] ⟨rd++fr,[],rl++X,O',base⟩ fun e'=>e'=⟨(d,[],v)::(s,[],u)::(rd++fr),[],rl++X,O',base⟩) (k:b6 P n ops base (i+1) r ((d,[],v)::(s,[],u)::T) Y O (W++[⟨rd,[(d,[],v),(s,[],u)],rl,[],none,false,none⟩]) K):b6 P n ops base i (r+1) T Y O W K:=
  cfw (wr:=[(d,[],v),(s,[],u)]) ho rd rl false hr hl (fun fr X O' hf _=>h fr X O' hf) k
theorem V6 (ho:ops[i]? =some o) (rd:Fr) (hr:gI T rd) (h:∀fr X,a7 fr=true→aC P n ops [o] ⟨rd++fr,[],X,O,base⟩ fun e'=>e'=⟨(d,[],v)::(rd++fr),[],X,O,base⟩) (k:b6 P n ops base (i+1) r ((d,[],v)::T) Y O (W++[⟨rd,[(d,[],v)],[],[],none,true,none⟩]) K):b6 P n ops base i (r+1) T Y O W K:=
  cfw (wr:=[(d,[],v)]) ho rd [] true hr trivial (fun fr X O' hf hO=>by cases hO rfl;exact h fr X hf) k
theorem cfo {O1:Ob} (ho:ops[i]? =some o) (rd:Fr) (hr:gI T rd) (h:∀fr X,a7 fr=true→aC P n ops [o] ⟨rd++fr,[],X,O,base⟩ fun e'=>e'=⟨wr++(rd++fr),[],X,O1,base⟩) (k:b6 P n ops base (i+1) r (wr++T) Y O1 (W++[⟨rd,wr,[],[],none,true,some O1⟩]) K) (hw:a7 wr=true:=by rfl):b6 P n ops base i (r+1) T Y O W K:=
  ⟨⟨rd,wr,[],[],none,true,some O1⟩,o,ho,hr,trivial,hw,fun fr X O' hf hO _=>by
    cases hO rfl
    intro G a w K' hr hfx hK
    exact h fr X hf G a w K' hr hfx fun e' G' a' w' hq=>hK e' G' a' w' ⟨_,hq,fun _=>rfl⟩,k⟩
theorem cfs {cs cs':List AV} {k0:Nat} (ho:ops[i]? =some o) (rd:Fr) (hr:gI T rd) (hl:a6 Y k0=some cs) (h:∀fr X O',a7 fr=true→aC P n ops [o] ⟨rd++fr,[],(k0,cs)::X,O',base⟩ fun e'=>e'=⟨wr++(rd++fr),[],(k0,cs')::(k0,cs)::X,O',base⟩) (k:b6 P n ops base (i+1) r (wr++T) ((k0,cs')::Y) O (W++[⟨rd,wr,[(k0,cs)],[(k0,cs')],none,false,none⟩]) K) (hw:a7 wr=true:=by rfl):b6 P n ops base i (r+1) T Y O W K:=
  ⟨⟨rd,wr,[(k0,cs)],[(k0,cs')],none,false,none⟩,o,ho,hr,⟨hl,trivial⟩,hw,fun fr X O' hf hO _=>by
    intro G a w K' hr hfx hK
    exact h fr X O' hf G a w K' hr hfx fun e' G' a' w' hq=>hK e' G' a' w' ⟨_,hq,fun _=>rfl⟩,k⟩
theorem PT {fr:Fr} {X:Lo} {cs:List AV} (hn:Nat.blt d n=true) (hf:nV d fr=true) (hX:a6 X d=none) (hs:cs.all (fun c=>c.scalar&&c.flat)=true):CZ n ⟨fr,[],X,O,base⟩ d [] (some cs)=some ⟨(d,[],.lptr d 0)::fr,[],(d,cs)::X,O,base⟩:=by
  unfold CZ
  simp only [plain,List.isEmpty_nil,Bool.and_self,hn,hX,GI,hf,hs,cond_true]
theorem cfa [I:HasTab P] {cs:List AV} (ho:ops[i]? =some o) (h:∀fr X O',lX (HasTab.T P) (HasTab.Z P) n ops [] [] ⟨fr,[],X,O',base⟩ o=ok0 (CZ n ⟨fr,[],X,O',base⟩ d [] (some cs)) []) (hn:Nat.blt d n=true) (hs:cs.all (fun c=>c.scalar&&c.flat)=true) (k:b6 P n ops base (i+1) r ((d,[],.lptr d 0)::T) ((d,cs)::Y) O (W++[⟨[],[(d,[],.lptr d 0)],[],[(d,cs)],some d,false,none⟩]) K):b6 P n ops base i (r+1) T Y O W K:=
  ⟨⟨[],[(d,[],.lptr d 0)],[],[(d,cs)],some d,false,none⟩,o,ho,trivial,trivial,rfl,fun fr X O' hf _ ha=>by
    obtain ⟨h1,h2⟩:=ha d rfl
    exact nW I.tok I.zok (q:=[]) ((h fr X O').trans (by rw [PT hn h1 h2 hs];rfl)) trivial (aW ⟨_,rfl,fun _=>rfl⟩),k⟩
def gD :List Operand→List Nat
  |[]=>[]
  | .tmp t::r=>t::gD r
  |_::r=>gD r
def vY {α:Type _} (T:Fr):List Nat→(Fr→α)→α
  |[],k=>k []
  |s::r,k=>(bX T [] s).force fun v=>vY T r fun f=>k ((s,[],v)::f)
theorem vZ {α:Type _} (T:Fr):∀(l:List Nat) (k:Fr→α),vY T l k=k (l.map fun s=>(s,[],bX T [] s))
  |[],_=>rfl
  |s::r,k=>by simp only [vY,cP,List.map_cons];rw [vZ T r]
theorem sO (hT:a7 T=true):∀l:List Nat,gI T (l.map fun s=>(s,[],bX T [] s))
  |[]=>trivial
  |s::r=>⟨by
    have:=sS hT s
    show (([]:Cnd),bX T [] s)=aY T s
    unfold bX dA
    rw [show (pL (aY T s).1 []=true) by rw [this];rfl,cond_true]
    exact Prod.ext this.symm rfl,sO hT r⟩
theorem cfp [I:HasTab P] {q:List (Nat×Nat)} {H':List Nat} (ho:ops[i]? =some o) (H:List Nat) (rl:Lo) (hs:vY T (gD o.op.operands.toList) (fun f=>some f)=some rd) (hl:oJ Y rl) (h:∀fr X O',lX (HasTab.T P) (HasTab.Z P) n ops [] H ⟨rd++fr,[],rl++X,O',base⟩ o=some (⟨(d,[],v)::(rd++fr),[],rl++X,O',base⟩,q,H')) (hq:iC q) (k:b6 P n ops base (i+1) r ((d,[],v)::T) Y O (W++[⟨rd,[(d,[],v)],rl,[],none,false,none⟩]) K) (hT:a7 T=true:=by rfl):b6 P n ops base i (r+1) T Y O W K:=by
  rw [vZ] at hs
  cases hs
  exact cfw (wr:=[(d,[],v)]) ho _ rl false (sO hT _) hl (fun fr X O' _ _=>nW I.tok I.zok (h fr X O') hq (aW rfl)) k
theorem cfq [I:HasTab P] {H':List Nat} (ho:ops[i]? =some o) (hs:vY T (gD o.op.operands.toList) (fun f=>some f)=some rd) (h:∀fr X O',lX (HasTab.T P) (HasTab.Z P) n ops [] [] ⟨rd++fr,[],[]++X,O',base⟩ o=some (⟨(d,[],v)::(rd++fr),[],[]++X,O',base⟩,[],H')) (k:b6 P n ops base (i+1) r ((d,[],v)::T) Y O (W++[⟨rd,[(d,[],v)],[],[],none,false,none⟩]) K) (hT:a7 T=true:=by rfl):b6 P n ops base i (r+1) T Y O W K:=
  cfp ho [] [] hs trivial h trivial k hT
theorem b9 [I:HasTab P] {q:List (Nat×Nat)} {H':List Nat} (ho:ops[i]? =some o) (H:List Nat) (hs:vY T (gD o.op.operands.toList) (fun f=>some f)=some rd) (h:∀fr X,lX (HasTab.T P) (HasTab.Z P) n ops [] H ⟨rd++fr,[],X,O,base⟩ o=some (⟨(d,[],v)::(rd++fr),[],X,O,base⟩,q,H')) (hq:iC q) (k:b6 P n ops base (i+1) r ((d,[],v)::T) Y O (W++[⟨rd,[(d,[],v)],[],[],none,true,none⟩]) K) (hT:a7 T=true:=by rfl):b6 P n ops base i (r+1) T Y O W K:=by
  rw [vZ] at hs
  cases hs
  exact V6 ho _ (sO hT _) (fun fr X _=>nW I.tok I.zok (h fr X) hq (aW rfl)) k
theorem sbF :∀{A B:Fr},a7 A=true→a7 B=true→wA [] (A++B)=true
  |[],[],_,_=>rfl
  |[],(_,[],_)::r,_,h=>sbF (A:=[]) (B:=r) rfl h
  |[],(_,_::_,_)::_,_,h=>by cases h
  |(_,[],_)::r,B,h,k=>sbF (A:=r) h k
  |(_,_::_,_)::_,_,h,_=>by cases h
theorem cfb [I:HasTab P] (ho:ops[i]? =some o) (hs:vY T (gD o.op.operands.toList) (fun f=>some f)=some rd) (h:∀fr X O',lX (HasTab.T P) (HasTab.Z P) n ops [] [] ⟨rd++fr,[],X,O',base⟩ o=ok0 (EK n ⟨rd++fr,[],X,O',base⟩ d [] (some v)) []) (hp:∀fr X O',fI n ⟨rd++fr,[],X,O',base⟩ d [] (some v)=some ⟨(d,[],v)::(rd++fr),[],X,O',base⟩) (k:b6 P n ops base (i+1) r ((d,[],v)::T) Y O (W++[⟨rd,[(d,[],v)],[],[],none,false,none⟩]) K) (hT:a7 T=true:=by rfl):b6 P n ops base i (r+1) T Y O W K:=by
  rw [vZ] at hs
  cases hs
  have hr:=sO hT (gD o.op.operands.toList)
  refine cfw (wr:=[(d,[],v)]) ho _ [] false hr trivial (fun fr X O' hf _=>nW I.tok I.zok (q:=[]) (H':=[]) ((h fr X O').trans ?_) trivial (aW rfl)) k
  unfold EK
  have e:wA [] ((List.map (fun s=>(s,[],bX T [] s)) (gD o.op.operands.toList))++fr)=true:=sbF (wU hT hr) hf
  simp only [e,rN,Bool.and_self,cond_true]
  rw [hp];rfl
theorem byB {G:Prop} {α:Type _} {b:Bool} {X Y:Option α} {r:α} (h:(bif b then X else Y)=some r) (hT:b=true→X=some r→G) (hF:b=false→Y=some r→G):G:=by
  cases b with
  |true=>exact hT rfl h
  |false=>exact hF rfl h
end
end
section
open Go.RowKit
section
variable {P:Program} {n:Nat} {ops:Array Oper} {base:Nat→Option (List AV)} {o:Oper} {QE:Exit→Es→Prop} {d i r:Nat} {T rd wr fr0:Fr} {W:List WE} {Y rl lo0:Lo} {O O0:Ob} {K:Fr→Lo→Ob→List WE→Prop} {v u:AV} {π:List Nat} {dep:List (List Nat)} {Q:Exit→Act→World→Prop}
def at' (π:List Nat) (k:Nat):Nat:=π.getD k 0
def IQ (π:List Nat) (m:Nat):Bool:=(Nat.beq π.length m&&(List.range m).all (fun k=>Nat.blt (at' π k) m))&&(List.range m).all (fun i=>π.contains i)&&(List.range m).all fun k=>(List.range k).all fun j=>!Nat.beq (at' π j) (at' π k)
def oL (π:List Nat) (dep:List (List Nat)) (W:List WE):Bool:=(List.range W.length).all fun j=>(List.range j).all fun i=>!(match W[i]?,W[j]? with|some a,some b=>dN a b|_,_=>false)||(dep.getD (at' π j) []).contains (at' π i)
def s4 (π:List Nat) (dep:List (List Nat)) (fr:Fr) (lo:Lo) (W:List WE):Bool:=(List.range W.length).all fun j=>match W[j]? with
  |some w=>match w.al with
   |some d=>nV d fr&&!i6 lo d&&(List.range W.length).all fun i=>Nat.beq i j||(match W[i]? with|some w'=>okA d w'|none=>true)||(dep.getD (at' π i) []).contains (at' π j)
   |none=>true
  |none=>true
def IP (π:List Nat) (dep:List (List Nat)) (m k:Nat):Bool:=(List.range m).all fun j=>Nat.ble j k||(dep.getD (at' π j) []).contains (at' π k)
theorem L6 {i j:Nat} {a b:WE} (h:oL π dep W=true) (hi:W[i]? =some a) (hj:W[j]? =some b) (hij:i<j) (hc:dN a b=true):at' π i∈dep.getD (at' π j) []:=by
  unfold oL at h
  rw [List.all_eq_true] at h
  have h1:=h j (List.mem_range.2 (List.getElem?_eq_some_iff.1 hj).1)
  rw [List.all_eq_true] at h1
  have h2:=h1 i (List.mem_range.2 hij)
  rw [hi,hj] at h2
  simp only [hc,Bool.not_true,Bool.false_or] at h2
  exact List.contains_iff_mem.1 h2
theorem TA {fr:Fr} {lo:Lo} {j d:Nat} {w:WE} (h:s4 π dep fr lo W=true) (hj:W[j]? =some w) (hd:w.al=some d):nV d fr=true∧i6 lo d=false∧∀i w',i≠j→W[i]? =some w'→(okA d w'=true)∨at' π j∈dep.getD (at' π i) []:=by
  unfold s4 at h
  rw [List.all_eq_true] at h
  have h1:=h j (List.mem_range.2 (List.getElem?_eq_some_iff.1 hj).1)
  rw [hj] at h1
  simp only [hd,Bool.and_eq_true,Bool.not_eq_true',List.all_eq_true] at h1
  obtain ⟨⟨a,b⟩,c⟩:=h1
  refine ⟨a,b,fun i w' hne hi=>?_⟩
  have:=c i (List.mem_range.2 (List.getElem?_eq_some_iff.1 hi).1)
  rw [hi] at this
  simp only [Bool.or_eq_true] at this
  rcases this with (h|h)|h
  ·exact absurd (Nat.eq_of_beq_eq_true h) hne
  ·exact .inl h
  ·exact .inr (List.contains_iff_mem.1 h)
theorem IR {m:Nat} (h:IQ π m=true):(π.length=m∧∀k,k<m→at' π k<m)∧(∀i,i<m→∃k,k<m∧at' π k=i)∧∀j k,j<m→k<m→at' π j=at' π k→j=k:=by
  unfold IQ at h
  simp only [Bool.and_eq_true,List.all_eq_true,Bool.not_eq_true'] at h
  obtain ⟨⟨⟨h1,h1'⟩,h2⟩,h3⟩:=h
  have hl:=Nat.eq_of_beq_eq_true h1
  refine ⟨⟨hl,fun k hk=>Nat.le_of_ble_eq_true (h1' k (List.mem_range.2 hk))⟩,fun i hi=>?_,fun j k hj hk e=>?_⟩
  ·have:=List.contains_iff_mem.1 (h2 i (List.mem_range.2 hi))
   obtain ⟨k,hk⟩:=List.mem_iff_getElem?.1 this
   have hkl:=(List.getElem?_eq_some_iff.1 hk).1
   exact ⟨k,by omega,by unfold at';rw [List.getD_eq_getElem?_getD,hk];rfl⟩
  ·have key:∀{j k:Nat},j<k→k<m→at' π j≠at' π k:=fun {j k} hjk hk e=>by
     have:=h3 k (List.mem_range.2 hk) j (List.mem_range.2 hjk)
     rw [e,Nat.beq_refl] at this;cases this
   rcases Nat.lt_trichotomy j k with h|h|h
   ·exact absurd e (key h hk)
   ·exact h
   ·exact absurd e.symm (key h hj)
theorem U7 {m k j:Nat} (h:IP π dep m k=true) (hj:j<m) (hk:k<j):at' π k∈dep.getD (at' π j) []:=by
  unfold IP at h
  rw [List.all_eq_true] at h
  have:=h j (List.mem_range.2 hj)
  rw [Bool.or_eq_true] at this
  rcases this with h|h
  ·have:=Nat.le_of_ble_eq_true h;omega
  ·exact List.contains_iff_mem.1 h
def Lp (π:List Nat) (L:Array Bool) (k:Nat):Bool:=L.getD (at' π k) false
def IL (P:Program) (n:Nat) (ops:Array Oper) (base:Nat→Option (List AV)) (π:List Nat) (fr0:Fr) (lo0:Lo) (O0:Ob) (W:List WE) (j:Nat) (w:WE):Prop:=∃o,ops[at' π j]? =some o∧gI (frW (fun _=>true) fr0 0 (W.take j)) w.rd∧oJ (loW (fun _=>true) lo0 0 (W.take j)) w.rl∧LV P n ops base (lkW (·.wo) O0 (fun _=>true) 0 (W.take j)) o w
structure RInv (π:List Nat) (dep:List (List Nat)) (m:Nat) (W:List WE) (L:Array Bool):Prop where
  size:L.size=m
  sub:∀k,k<m→W.length≤k→Lp π L k=false
  dep:∀i,L.getD i false=true→∀x∈dep.getD i [],L.getD x false=true
theorem FM {l:List Oper} {L:Array Bool} {k:Nat} {wv:WE} (_h1:w5 dep 0 l=true) {W':List WE} (hk:W'[k]? =some wv) (h2:oL π dep W'=true) (hI:RInv π dep l.length W' L) (hnot:Lp π L k=false) (hd:∀x∈dep.getD (at' π k) [],L.getD x false=true):
    (∀{β:Type} (g:WE→Option β) (x:β),(∀w':WE,(g w').isSome=true→dN w' wv=true∧dN wv w'=true)→lkW g x (fun _=>true) 0 (W'.take k)=lkW g x (Lp π L) 0 W')∧
    (∀j w',W'[j]? =some w'→j≠k→dN w' wv=true→dN wv w'=true→Lp π L j=decide (j<k)):=by
  have hbefore:∀j w',W'[j]? =some w'→j≠k→dN w' wv=true→dN wv w'=true→Lp π L j=decide (j<k):=by
    intro j w' hj hne c1 c2
    rcases Nat.lt_or_ge j k with hlt|hge
    ·have:=hd _ (L6 h2 hj hk hlt c1)
     unfold Lp;rw [this];simp [hlt]
    ·have hgt:k<j:=by omega
     have hdj:=L6 h2 hk hj hgt c2
     cases hLj:Lp π L j with
     |true=>
      have:=hI.dep _ hLj _ hdj
      unfold Lp at hnot;rw [this] at hnot;cases hnot
     |false=>simp;omega
  refine ⟨fun {β} g x hg=>?_,hbefore⟩
  rw [GW]
  exact kY fun j w' hj hsj=>by
    rw [Nat.zero_add,Nat.zero_add]
    by_cases e:j=k
    ·subst e;rw [hnot];simp
    ·exact (hbefore j w' hj e (hg w' hsj).1 (hg w' hsj).2).symm
theorem pX {s:Nat} {w':WE} (h:(gS s w').isSome=true):gH w'.wr s=true:=by
  unfold gS at h
  cases e:gH w'.wr s with|true=>rfl|false=>rw [e] at h;cases h
theorem l2 {s:Nat} {w':WE} (h:(gL s w').isSome=true):i6 w'.wl s=true:=by
  unfold gL at h
  rw [Option.isSome_map] at h
  rw [kX];exact h
theorem UO {l:List Oper} {L:Array Bool} {k:Nat} {wv:WE} {W':List WE} (h1:w5 dep 0 l=true) (hk:W'[k]? =some wv) (h2:oL π dep W'=true) (hI:RInv π dep l.length W' L) (hnot:Lp π L k=false) (hd:∀x∈dep.getD (at' π k) [],L.getD x false=true) (hf0:a7 fr0=true) (hwf:∀w∈W',a7 w.wr=true)
    (hrd:gI (frW (fun _=>true) fr0 0 (W'.take k)) wv.rd) (hrl:oJ (loW (fun _=>true) lo0 0 (W'.take k)) wv.rl):
    (∀s,aY (wv.rd++frW (Lp π L) fr0 0 W') s=aY (frW (Lp π L) fr0 0 W') s)∧(∀s,a6 (wv.rl++loW (Lp π L) lo0 0 W') s=a6 (loW (Lp π L) lo0 0 W') s)∧a7 (wv.rd++frW (Lp π L) fr0 0 W')=true∧(wv.ro=true→lkW (·.wo) O0 (Lp π L) 0 W'=lkW (·.wo) O0 (fun _=>true) 0 (W'.take k)):=by
  have hpref:∀{β:Type} (g:WE→Option β) (x:β),(∀w':WE,(g w').isSome=true→dN w' wv=true∧dN wv w'=true)→lkW g x (fun _=>true) 0 (W'.take k)=lkW g x (Lp π L) 0 W':=fun g x hg=>(FM h1 hk h2 hI hnot hd).1 g x hg
  have hgetrd:∀s,gH wv.rd s=true→aY wv.rd s=aY (frW (Lp π L) fr0 0 W') s:=by
    intro s hs'
    rw [G6 hrd hs',d6,d6]
    exact hpref _ _ fun w' h=>⟨uZ (pX h) (.inl hs'),MA hs' (pX h)⟩
  have hgetrl:∀s,i6 wv.rl s=true→a6 wv.rl s=a6 (loW (Lp π L) lo0 0 W') s:=by
    intro s hs'
    rw [G9 hrl hs',dL,dL]
    exact hpref _ _ fun w' h=>⟨uX (l2 h) (.inl hs'),L8 hs' (l2 h)⟩
  refine ⟨fun s=>?_,fun s=>?_,AB (wU (mZ hf0 fun w' hw'=>hwf w' (List.mem_of_mem_take hw')) hrd) (mZ hf0 hwf),fun hro=>(hpref _ _ fun w' h=>⟨uY h (.inl hro),L9 hro h⟩).symm⟩
  ·rw [vR]
   cases e:gH wv.rd s with
   |true=>exact hgetrd s e
   |false=>rfl
  ·rw [sY]
   cases e:a6 wv.rl s with
   |some c=>rw [←hgetrl s (by rw [kX,e];rfl),e]
   |none=>rfl
theorem R8 {l:List Oper} {L:Array Bool} {k:Nat} {wv:WE} {W':List WE} (hP:IQ π l.length=true) (h1:w5 dep 0 l=true) (hk:W'[k]? =some wv) (hkl:k<l.length) (hWl:W'.length≤l.length) (h2:oL π dep W'=true) (hI:RInv π dep l.length W' L) (hnot:Lp π L k=false) (hd:∀x∈dep.getD (at' π k) [],L.getD x false=true):
    (∀s,(bif gH wv.wr s then aY wv.wr s else aY (frW (Lp π L) fr0 0 W') s)=aY (frW (Lp π (L.setIfInBounds (at' π k) true)) fr0 0 W') s)∧(∀s,(match a6 wv.wl s with|some c=>some c|none=>a6 (loW (Lp π L) lo0 0 W') s)=a6 (loW (Lp π (L.setIfInBounds (at' π k) true)) lo0 0 W') s)∧
     wv.wo.getD (lkW (·.wo) O0 (Lp π L) 0 W')=lkW (·.wo) O0 (Lp π (L.setIfInBounds (at' π k) true)) 0 W'∧RInv π dep l.length W' (L.setIfInBounds (at' π k) true):=by
  obtain ⟨hpl,hps,hpi⟩:=IR hP
  have hbefore:=(FM h1 hk h2 hI hnot hd).2
  have hsz:at' π k<L.size:=by
    rw [hI.size];exact hpl.2 k hkl
  have hset:∀j,j<l.length→Lp π (L.setIfInBounds (at' π k) true) j=(Lp π L j||Nat.beq j k):=by
    intro j hj
    unfold Lp
    by_cases e:j=k
    ·subst e;simp [hsz,Nat.beq_refl]
    ·rw [getD_set_ne false (fun h=>e (hpi _ _ hj hkl h.symm))]
     have:Nat.beq j k=false:=by cases h:Nat.beq j k with|false=>rfl|true=>exact absurd (Nat.eq_of_beq_eq_true h) e
     rw [this,Bool.or_false]
  have hlt:∀{j:Nat} {w':WE},W'[j]? =some w'→j<l.length:=fun h=>by have:=(List.getElem?_eq_some_iff.1 h).1;omega
  have hlast:∀{β:Type} (g:WE→Option β) (x v:β),g wv=some v→(∀w':WE,(g w').isSome=true→dN w' wv=true∧dN wv w'=true)→lkW g x (Lp π (L.setIfInBounds (at' π k) true)) 0 W'=v:=by
    intro β g x v hg hc
    refine GV (m:=k) hk hg (by rw [Nat.zero_add,hset k hkl,Nat.beq_refl,Bool.or_true]) fun j w' hj hwj hsj=>?_
    rw [Nat.zero_add,hset j (hlt hwj),hbefore j w' hwj (by omega) (hc w' hsj).1 (hc w' hsj).2]
    have:Nat.beq j k=false:=by cases h:Nat.beq j k with|false=>rfl|true=>have:=Nat.eq_of_beq_eq_true h;omega
    rw [this];simp;omega
  have hsame:∀{β:Type} (g:WE→Option β) (x:β),g wv=none→lkW g x (Lp π (L.setIfInBounds (at' π k) true)) 0 W'=lkW g x (Lp π L) 0 W':=by
    intro β g x hg
    exact kY fun j w' hj hsj=>by
      rw [Nat.zero_add,hset j (hlt hj)]
      by_cases e2:j=k
      ·subst e2;rw [hk] at hj;cases hj;rw [hg] at hsj;cases hsj
      ·have:Nat.beq j k=false:=by cases h:Nat.beq j k with|false=>rfl|true=>exact absurd (Nat.eq_of_beq_eq_true h) e2
       rw [this,Bool.or_false]
  refine ⟨fun s=>?_,fun s=>?_,?_,⟨by simpa using hI.size,fun j hj hge=>?_,fun j hj x hx=>?_⟩⟩
  ·rw [d6,d6]
   cases e:gH wv.wr s with
   |true=>exact (hlast (gS s) _ _ (by unfold gS;rw [e];rfl) fun w' h=>⟨uZ (pX h) (.inr e),uZ e (.inr (pX h))⟩).symm
   |false=>exact (hsame (gS s) _ (by unfold gS;rw [e];rfl)).symm
  ·rw [dL,dL]
   cases e:a6 wv.wl s with
   |some c=>
    have e':i6 wv.wl s=true:=by rw [kX,e];rfl
    exact (hlast (gL s) _ _ (by unfold gL;rw [e];rfl) fun w' h=>⟨uX (l2 h) (.inr e'),uX e' (.inr (l2 h))⟩).symm
   |none=>exact (hsame (gL s) _ (by unfold gL;rw [e];rfl)).symm
  ·cases e:wv.wo with
   |some c=>exact (hlast (·.wo) _ _ e fun w' h=>⟨uY h (.inr (by rw [e];rfl)),uY (by rw [e];rfl) (.inr h)⟩).symm
   |none=>exact (hsame (·.wo) _ e).symm
  ·rw [hset j hj,hI.sub j hj hge]
   have hkW:=(List.getElem?_eq_some_iff.1 hk).1
   have:Nat.beq j k=false:=by cases h:Nat.beq j k with|false=>rfl|true=>have:=Nat.eq_of_beq_eq_true h;omega
   rw [this];rfl
  ·by_cases e:j=at' π k
   ·subst e
    exact getD_set_true (hd x hx)
   ·rw [getD_set_ne false (fun h=>e h.symm)] at hj
    exact getD_set_true (hI.dep j hj x hx)
def WU (P:Program) (n:Nat) (ops:Array Oper) (base:Nat→Option (List AV)) (O:Ob) (o:Oper) {ι:Type} (g0:ι) (w:ι→WE):Prop:=
  ∀(fr:Fr) (X:Lo) (O':Ob),a7 fr=true→((w g0).ro=true→O'=O)→
   aC P n ops [o] ⟨(w g0).rd++fr,[],(w g0).rl++X,O',base⟩ fun e'=>∃g X',e'=⟨(w g).wr++((w g0).rd++fr),[],X',(w g).wo.getD O',base⟩∧∀k,a6 X' k=a6 ((w g).wl++((w g0).rl++X)) k
def eD (P:Program) (n:Nat) (ops:Array Oper) (base:Nat→Option (List AV)) (π:List Nat) (dep:List (List Nat)) (fr0:Fr) (lo0:Lo):Nat→Fr→Lo→Ob→List WE→(Fr→Lo→Ob→Prop)→Prop
  |0,T,Y,O,W,K=>(oL π dep W&&s4 π dep fr0 lo0 W)=true∧K T Y O
  |r+1,T,Y,O,W,K=>(∃w o,ops[at' π W.length]? =some o∧gI T w.rd∧oJ Y w.rl∧a7 w.wr=true∧LV P n ops base O o w∧eD P n ops base π dep fr0 lo0 r (w.wr++T) (w.wl++Y) (w.wo.getD O) (W++[w]) K)∨
   (∃(ι:Type) (g0:ι) (w:ι→WE) (o:Oper),ops[at' π W.length]? =some o∧gI T (w g0).rd∧oJ Y (w g0).rl∧WU P n ops base O o g0 w∧IP π dep (W.length+r+1) W.length=true∧
    (∀g,(w g).rd=(w g0).rd∧(w g).rl=(w g0).rl∧(w g).ro=(w g0).ro∧a7 (w g).wr=true∧(oL π dep (W++[w g])&&s4 π dep fr0 lo0 (W++[w g]))=true)∧∀g,eD P n ops base π dep fr0 lo0 r ((w g).wr++T) ((w g).wl++Y) ((w g).wo.getD O) (W++[w g]) K)
theorem RW {wv:WE} (h:oL π dep (W++[wv])=true):oL π dep W=true:=by
  unfold oL at h ⊢
  rw [List.all_eq_true] at h ⊢
  intro j hj
  have hjl:=List.mem_range.1 hj
  have h1:=h j (List.mem_range.2 (by simp;omega))
  rw [List.all_eq_true] at h1 ⊢
  intro i hi
  have hil:=List.mem_range.1 hi
  have h2:=h1 i hi
  rw [List.getElem?_append_left (by omega),List.getElem?_append_left (by omega)] at h2
  exact h2
theorem RX {wv:WE} {fr:Fr} {lo:Lo} (h:s4 π dep fr lo (W++[wv])=true):s4 π dep fr lo W=true:=by
  unfold s4 at h ⊢
  rw [List.all_eq_true] at h ⊢
  intro j hj
  have hjl:=List.mem_range.1 hj
  have h1:=h j (List.mem_range.2 (by simp;omega))
  rw [List.getElem?_append_left hjl] at h1
  split
  ·rename_i w hw
   rw [hw] at h1
   simp only at h1
   split
   ·rename_i d hd
    rw [hd] at h1
    simp only [Bool.and_eq_true,List.all_eq_true] at h1 ⊢
    refine ⟨h1.1,fun i hi=>?_⟩
    have hil:=List.mem_range.1 hi
    have:=h1.2 i (List.mem_range.2 (by simp;omega))
    rw [List.getElem?_append_left hil] at this
    exact this
   ·rfl
  ·rfl
theorem UN {l:List Oper} {W:List WE} {K:Fr→Lo→Ob→Prop} {Q:Exit→Act→World→Prop} (hP:IQ π l.length=true) (h1:w5 dep 0 l=true) (hWl:W.length≤l.length) (h2:oL π dep W=true) (hA:s4 π dep fr0 lo0 W=true) (hf0:a7 fr0=true) (hwf:∀w∈W,a7 w.wr=true)
    (hN:W.length<l.length→IP π dep l.length W.length=true)
    (hG:W.length<l.length→∀(L:Array Bool) (k:Nat),RInv π dep l.length W L→(∀x∈dep.getD (at' π W.length) [],L.getD x false=true)→s5 l.length L=k+1→(∀j w,W[j]? =some w→Lp π L j=false→IL P n l.toArray base π fr0 lo0 O0 W j w)→∀(G:Gh) (a:Act) (w:World),fU P G n ⟨frW (Lp π L) fr0 0 W,[],loW (Lp π L) lo0 0 W,lkW (·.wo) O0 (Lp π L) 0 W,base⟩ a w→Fix G w→
      (∀T Y O G' a' w',fU P G' n ⟨T,[],Y,O,base⟩ a' w'→Keep G w G' w'→K T Y O→Q .normal a' w')→wpOp P l.toArray Q (at' π W.length) (wpAny P .any l.toArray Q k (L.setIfInBounds (at' π W.length) true)) a w)
    (hE:W.length=l.length→K (frW (fun _=>true) fr0 0 W) (loW (fun _=>true) lo0 0 W) (lkW (·.wo) O0 (fun _=>true) 0 W)):
    ∀(k:Nat) (L:Array Bool),RInv π dep l.length W L→s5 l.length L=k→(∀j w,W[j]? =some w→Lp π L j=false→IL P n l.toArray base π fr0 lo0 O0 W j w)→
    ∀(G:Gh) (a:Act) (w:World),fU P G n ⟨frW (Lp π L) fr0 0 W,[],loW (Lp π L) lo0 0 W,lkW (·.wo) O0 (Lp π L) 0 W,base⟩ a w→Fix G w→
    (∀T Y O G' a' w',fU P G' n ⟨T,[],Y,O,base⟩ a' w'→Keep G w G' w'→K T Y O→Q .normal a' w')→wpAny P .any l.toArray Q k L a w:=by
  obtain ⟨hpl,hps,hpi⟩:=IR hP
  intro k
  induction k with
  |zero=>
   intro L hI hc hF G a w hr hfx hK
   have hall:=wO.1 hc
   have hWe:W.length=l.length:=Classical.byContradiction fun hne=>by
     have hk:W.length<l.length:=by omega
     have h3:=hI.sub W.length hk (Nat.le_refl _)
     have h4:=hall _ (hpl.2 _ hk)
     unfold Lp at h3;rw [h3] at h4;cases h4
   have hcg:∀{β:Type} {g:WE→Option β} {x:β},lkW g x (Lp π L) 0 W=lkW g x (fun _=>true) 0 W:=kY fun j w' hw _=>by
     have:=(List.getElem?_eq_some_iff.1 hw).1
     rw [Nat.zero_add]
     exact hall _ (hpl.2 j (by omega))
   refine ⟨?_,hK _ _ _ G a w (hr.same (fun s=>by rw [d6,d6];exact hcg) (fun k=>by rw [dL,dL];exact hcg) hcg) (Keep.refl _ _) (hE hWe)⟩
   cases e:Region.ready .any l.toArray L with
   |nil=>rfl
   |cons i r=>
    have hi:i∈Region.ready .any l.toArray L:=by rw [e];exact List.mem_cons_self ..
    obtain ⟨hLt,o,ho,_⟩:=mem_ready.1 hi
    have hil:i<l.length:=by simpa using (Array.getElem?_eq_some_iff.1 ho).1
    have:=hall i hil
    have hs:i<L.size:=by rw [hI.size];exact hil
    have:L.getD i true=true:=by simpa [hs] using this
    rw [this] at hLt;cases hLt
  |succ k ih=>
   intro L hI hc hF G a w hr hfx hK
   have hin:∀{i:Nat} {o:Oper},l.toArray[i]? =some o→(∀e∈o.after,Region.binds .any e=true→L.getD e.on false=true)→∀k∈r7 o,L.getD k false=true:=by
     intro i o _ h k hk
     unfold r7 at hk
     obtain ⟨e,he,rfl⟩:=List.mem_map.1 hk
     obtain ⟨h4,h5⟩:=List.mem_filter.1 he
     exact h e (by simpa using h4) h5
   refine ⟨fun e0=>?_,fun i hi=>?_⟩
   ·exfalso
    have hall:∀i,i<l.length→L.getD i false=true:=by
      intro i
      induction i using Nat.strongRecOn with
      |_ i ih2=>
       intro hil
       refine Classical.byContradiction fun hne=>?_
       have hLf:L.getD i false=false:=by simpa using hne
       have ho:l[i]? =some l[i]:=List.getElem?_eq_getElem hil
       have hp:=(BN h1 ho).1
       have:i∈Region.ready .any l.toArray L:=by
         rw [mem_ready]
         refine ⟨?_,l[i],by simp,fun e he hb=>?_⟩
         ·have:i<L.size:=by rw [hI.size];exact hil
          simpa [this] using hLf
         ·have hk:e.on∈r7 l[i]:=List.mem_map.2 ⟨e,List.mem_filter.2 ⟨by simpa using he,hb⟩,rfl⟩
          have:=hp _ hk
          rw [Nat.zero_add] at this
          exact ih2 _ this (by omega)
       rw [e0] at this;cases this
    rw [wO.2 hall] at hc;cases hc
   ·obtain ⟨hLt,o,ho,hpre⟩:=mem_ready.1 hi
    have hpreL:=hin ho hpre
    have hil:i<l.length:=by simpa using (Array.getElem?_eq_some_iff.1 ho).1
    have hLf:L.getD i false=false:=by
      have:i<L.size:=by rw [hI.size];exact hil
      simpa [this] using hLt
    have hol:l[i]? =some o:=by simpa using ho
    have hdep:∀x∈dep.getD i [],L.getD x false=true:=by
      intro x hx
      obtain ⟨k,hk,h⟩:=(BN h1 hol).2 x (by rw [Nat.zero_add];exact hx)
      rcases h with rfl|h
      ·exact hpreL _ hk
      ·exact hI.dep k (hpreL _ hk) x h
    obtain ⟨p,hpm,rfl⟩:=hps i hil
    rcases Nat.lt_trichotomy p W.length with hp|hp|hp
    ·
     obtain ⟨wv,hw⟩:∃wv,W[p]? =some wv:=⟨_,List.getElem?_eq_getElem hp⟩
     obtain ⟨o',ho',hrd,hrl,hop⟩:=hF p wv hw hLf
     rw [ho] at ho';cases ho'
     obtain ⟨m1,m2,m3,m4⟩:=UO (l:=l) (fr0:=fr0) (lo0:=lo0) (O0:=O0) h1 hw h2 hI hLf hdep hf0 hwf hrd hrl
     obtain ⟨q1,q2,q3,q4⟩:=R8 (l:=l) (fr0:=fr0) (lo0:=lo0) (O0:=O0) hP h1 hw hpm hWl h2 hI hLf hdep
     have hr2:=hr.same (fr':=wv.rd++frW (Lp π L) fr0 0 W) (lo':=wv.rl++loW (Lp π L) lo0 0 W) (fun s=>(m1 s).symm) (fun s=>(m2 s).symm) rfl
     have:=hop (frW (Lp π L) fr0 0 W) (loW (Lp π L) lo0 0 W) (lkW (·.wo) O0 (Lp π L) 0 W) (mZ hf0 hwf) m4
       (fun d hd=>by
         obtain ⟨b1,b2,b3⟩:=TA hA hw hd
         have hno:∀j w',W[j]? =some w'→Lp π L j=true→okA d w'=true:=by
           intro j w' hj hL
           have hne:j≠p:=fun e=>by subst e;unfold Lp at hL;rw [hL] at hLf;cases hLf
           rcases b3 j w' hne hj with h|h
           ·exact h
           ·rw [hI.dep _ hL _ h] at hLf;cases hLf
         refine ⟨GY b1 fun j w' hj hL=>?_,?_⟩
         ·have:=hno j w' hj (by rw [Nat.zero_add] at hL;exact hL)
          unfold okA at this
          rw [Bool.and_eq_true] at this;exact this.1
         ·rw [dL,vW,←Option.not_isSome_iff_eq_none,←kX,b2]
          ·simp
          ·intro j w' hj hsj
           rw [Nat.zero_add]
           cases hL:Lp π L j with
           |false=>rfl
           |true=>
            have:=hno j w' hj hL
            unfold okA at this
            rw [l2 hsj] at this
            simp at this)
       G a w (fun e a w=>match e with| .normal=>wpAny P .any l.toArray Q k (L.setIfInBounds (at' π p) true) a w|e=>Q e a w) (RelE.of hr2.1 m3 hr2.2) hfx
       (fun e' G' a' w' hq hr' hk'=>by
         obtain ⟨X',rfl,hX'⟩:=hq
         refine ih (L.setIfInBounds (at' π p) true) q4 (FW hil hLf (by rw [hI.size];exact hil) hc) (fun j w' hj hL=>hF j w' hj (by
           unfold Lp at hL ⊢
           by_cases e:at' π j=at' π p
           ·rw [e];exact hLf
           ·rw [getD_set_ne false (fun h=>e h.symm)] at hL;exact hL)) G' a' w' (hr'.same (fun s=>?_) (fun s=>?_) q3) (hfx.keep hk') fun T Y O G2 a2 w2 hr2 hk2 hh=>hK T Y O G2 a2 w2 hr2 (hk'.trans hk2) hh
         ·rw [←q1 s,vR,m1]
         ·rw [hX',sY,m2];exact q2 s)
     unfold wpOp
     simp only [ho]
     simp only [wpList] at this
     split at this
     ·rename_i hw2
      rw [if_pos hw2]
      rcases this with h1|h1
      ·left
       unfold Oper.wp at h1 ⊢
       generalize (execOp a.eval o).run P w=r at h1 ⊢
       cases r with
       |ok nx w'=>cases nx<;>exact h1
       |halt x w'=>cases x<;>exact h1
      ·right;exact h1
     ·rename_i hw2
      rw [if_neg hw2];exact this
    ·subst hp
     exact hG hpm L k hI hdep hc hF G a w hr hfx hK
    ·have hWlt:W.length<l.length:=by omega
     have:=hdep _ (U7 (hN hWlt) hpm hp)
     have h3:=hI.sub W.length hWlt (Nat.le_refl _)
     unfold Lp at h3;rw [h3] at this;cases this
theorem nU {β:Type} {g:WE→Option β} {x:β} {L:Nat→Bool} {W:List WE} {wv:WE} (h:L W.length=false):lkW g x L 0 (W++[wv])=lkW g x L 0 W:=by
  rw [B3]
  simp only [lkW,Nat.zero_add,h,cond_false]
theorem KK {L:Array Bool} {wv:WE} {G:Gh} {a:Act} {w:World} (h:Lp π L W.length=false) (hr:fU P G n ⟨frW (Lp π L) fr0 0 W,[],loW (Lp π L) lo0 0 W,lkW (·.wo) O0 (Lp π L) 0 W,base⟩ a w):fU P G n ⟨frW (Lp π L) fr0 0 (W++[wv]),[],loW (Lp π L) lo0 0 (W++[wv]),lkW (·.wo) O0 (Lp π L) 0 (W++[wv]),base⟩ a w:=
  hr.same (fun s=>by rw [d6,d6,nU h]) (fun s=>by rw [dL,dL,nU h]) (nU h).symm
theorem RInv.snoc {m:Nat} {L:Array Bool} {wv:WE} (h:RInv π dep m W L):RInv π dep m (W++[wv]) L:=⟨h.size,fun k hk hge=>h.sub k hk (by simp at hge;omega),h.dep⟩
theorem IL.snoc {l:List Oper} {j:Nat} {w' wv:WE} (hj:j<W.length) (h:IL P n l.toArray base π fr0 lo0 O0 W j w'):IL P n l.toArray base π fr0 lo0 O0 (W++[wv]) j w':=by
  obtain ⟨o,a1,a2,a3,a4⟩:=h
  have e:(W++[wv]).take j=W.take j:=List.take_append_of_le_length (by omega)
  exact ⟨o,a1,by rw [e];exact a2,by rw [e];exact a3,by rw [e];exact a4⟩
theorem eD.sound {l:List Oper} {K:Fr→Lo→Ob→Prop} (hP:IQ π l.length=true) (h1:w5 dep 0 l=true) (hf0:a7 fr0=true):
    ∀(r:Nat) (T:Fr) (Y:Lo) (O:Ob) (W:List WE),eD P n l.toArray base π dep fr0 lo0 r T Y O W K→T=frW (fun _=>true) fr0 0 W→Y=loW (fun _=>true) lo0 0 W→O=lkW (·.wo) O0 (fun _=>true) 0 W→W.length+r=l.length→(∀w∈W,a7 w.wr=true)→
    ∀(k:Nat) (L:Array Bool),RInv π dep l.length W L→s5 l.length L=k→(∀j w,W[j]? =some w→Lp π L j=false→IL P n l.toArray base π fr0 lo0 O0 W j w)→
    ∀(G:Gh) (a:Act) (w:World),fU P G n ⟨frW (Lp π L) fr0 0 W,[],loW (Lp π L) lo0 0 W,lkW (·.wo) O0 (Lp π L) 0 W,base⟩ a w→Fix G w→
    (∀T Y O G' a' w',fU P G' n ⟨T,[],Y,O,base⟩ a' w'→Keep G w G' w'→K T Y O→Q .normal a' w')→wpAny P .any l.toArray Q k L a w:=by
  intro r
  induction r with
  |zero=>
   intro T Y O W hC hT hY hO hlen hwf k L hI hc hF G a w hr hfx hK
   obtain ⟨hck,hKK⟩:=hC
   rw [Bool.and_eq_true] at hck
   subst hT hY hO
   exact UN (K:=K) hP h1 (by omega) hck.1 hck.2 hf0 hwf (fun h=>by omega) (fun h=>by omega) (fun _=>hKK) k L hI hc hF G a w hr hfx hK
  |succ r ihr=>
   intro T Y O W hC hT hY hO hlen hwf k L hI hc hF G a w hr hfx hK
   have hWlt:W.length<l.length:=by omega
   rcases hC with ⟨w1,o,e1,e2,e3,e4,e5,e6⟩|⟨ι,g0,w1,o,e1,e2,e3,e5,eN,eg,e6⟩
   ·refine ihr _ _ _ (W++[w1]) e6 (by rw [EU,←hT];rfl) (by rw [EY,←hY];rfl) (by rw [B3,←hO];rfl) (by simp;omega) (fun w' hw'=>?_) k L hI.snoc hc (fun j w' hj hL=>?_) G a w (KK (hI.sub _ hWlt (Nat.le_refl _)) hr) hfx hK
    ·rcases List.mem_append.1 hw' with h|h
     ·exact hwf w' h
     ·rw [List.mem_singleton.1 h];exact e4
    ·rcases Nat.lt_or_ge j W.length with h|h
     ·rw [List.getElem?_append_left h] at hj
      exact (hF j w' hj hL).snoc h
     ·have hje:j=W.length:=by
        have:=(List.getElem?_eq_some_iff.1 hj).1
        simp at this;omega
      subst hje
      simp at hj
      subst hj
      refine ⟨o,e1,?_,?_,?_⟩
      ·rw [List.take_left,←hT];exact e2
      ·rw [List.take_left,←hY];exact e3
      ·rw [List.take_left,←hO];exact e5
   ·have hck:=(eg g0).2.2.2.2
    rw [Bool.and_eq_true] at hck
    refine UN (K:=K) hP h1 (by omega) (RW hck.1) (RX hck.2) hf0 hwf (fun _=>by rw [←hlen,←Nat.add_assoc];exact eN) (fun _=>?_) (fun h=>by omega) k L hI hc hF G a w hr hfx hK
    intro L' k' hI' hd' hc' hF1 G1 a1 wd1 hr1 hfx1 hK1
    have hLf:Lp π L' W.length=false:=hI'.sub _ hWlt (Nat.le_refl _)
    have hpl:=IR hP
    have hW0:(W++[w1 g0])[W.length]? =some (w1 g0):=by simp
    obtain ⟨m1,m2,m3,m4⟩:=UO (l:=l) (fr0:=fr0) (lo0:=lo0) (O0:=O0) h1 hW0 hck.1 hI'.snoc hLf hd' hf0 (fun w' hw'=>by
      rcases List.mem_append.1 hw' with h|h
      ·exact hwf w' h
      ·rw [List.mem_singleton.1 h];exact (eg g0).2.2.2.1) (by rw [List.take_left,←hT];exact e2) (by rw [List.take_left,←hY];exact e3)
    have hr2:=KK (wv:=w1 g0) hLf hr1
    have hr3:=hr2.same (fr':=(w1 g0).rd++frW (Lp π L') fr0 0 (W++[w1 g0])) (lo':=(w1 g0).rl++loW (Lp π L') lo0 0 (W++[w1 g0])) (fun s=>(m1 s).symm) (fun s=>(m2 s).symm) rfl
    have hwf0:∀w'∈W++[w1 g0],a7 w'.wr=true:=fun w' hw'=>by
      rcases List.mem_append.1 hw' with h|h
      ·exact hwf w' h
      ·rw [List.mem_singleton.1 h];exact (eg g0).2.2.2.1
    have:=e5 (frW (Lp π L') fr0 0 (W++[w1 g0])) (loW (Lp π L') lo0 0 (W++[w1 g0])) (lkW (·.wo) O0 (Lp π L') 0 (W++[w1 g0])) (mZ hf0 hwf0) (fun hro=>by rw [m4 hro,List.take_left,←hO])
      G1 a1 wd1 (fun e a w=>match e with| .normal=>wpAny P .any l.toArray Q k' (L'.setIfInBounds (at' π W.length) true) a w|e=>Q e a w) (RelE.of hr3.1 m3 hr3.2) hfx1
      (fun e' G' a' w' hq hr' hk'=>by
        obtain ⟨g,X',rfl,hX'⟩:=hq
        obtain ⟨g1,g2,g3,g4,g5⟩:=eg g
        rw [Bool.and_eq_true] at g5
        have hWg:(W++[w1 g])[W.length]? =some (w1 g):=by simp
        obtain ⟨q1,q2,q3,q4⟩:=R8 (l:=l) (fr0:=fr0) (lo0:=lo0) (O0:=O0) hP h1 hWg hWlt (by simp;omega) g5.1 hI'.snoc hLf hd'
        refine ihr _ _ _ (W++[w1 g]) (e6 g) (by rw [EU,←hT];rfl) (by rw [EY,←hY];rfl) (by rw [B3,←hO];rfl) (by simp;omega) (fun w' hw'=>?_) k' (L'.setIfInBounds (at' π W.length) true) q4 ?_ (fun j w' hj hL=>?_) G' a' w' (hr'.same (fun s=>?_) (fun s=>?_) ?_) (hfx1.keep hk') fun T Y O G2 a2 w2 hr2 hk2 hh=>hK1 T Y O G2 a2 w2 hr2 (hk'.trans hk2) hh
        ·rcases List.mem_append.1 hw' with h|h
         ·exact hwf w' h
         ·rw [List.mem_singleton.1 h];exact g4
        ·exact FW (hpl.1.2 _ hWlt) hLf (by rw [hI'.size];exact hpl.1.2 _ hWlt) hc'
        ·rcases Nat.lt_or_ge j W.length with h|h
         ·rw [List.getElem?_append_left h] at hj
          exact (hF1 j w' hj (by
            unfold Lp at hL ⊢
            by_cases e:at' π j=at' π W.length
            ·rw [e];exact hLf
            ·rw [getD_set_ne false (fun h=>e h.symm)] at hL;exact hL)).snoc h
         ·have hje:j=W.length:=by
            have:=(List.getElem?_eq_some_iff.1 hj).1
            simp at this;omega
          subst hje
          have hs:at' π W.length<L'.size:=by rw [hI'.size];exact hpl.1.2 _ hWlt
          unfold Lp at hL
          simp [hs] at hL
        ·rw [←q1 s,vR,m1]
         rw [d6,d6,nU hLf,nU hLf]
        ·rw [hX',sY,m2,←q2 s,dL,dL,nU hLf,nU hLf]
         try (cases a6 (w1 g).wl s<;>rfl)
        ·rw [←q3,nU hLf,nU hLf])
    unfold wpOp
    simp only [e1]
    simp only [wpList] at this
    split at this
    ·rename_i hw2
     rw [if_pos hw2]
     rcases this with h1|h1
     ·left
      unfold Oper.wp at h1 ⊢
      generalize (execOp a1.eval o).run P wd1=r at h1 ⊢
      cases r with
      |ok nx w'=>cases nx<;>exact h1
      |halt x w'=>cases x<;>exact h1
     ·right;exact h1
    ·rename_i hw2
     rw [if_neg hw2];exact this
end
section
variable {P:Program} {n:Nat} {ops:Array Oper} {base:Nat→Option (List AV)} {o:Oper} {QE:Exit→Es→Prop} {d r:Nat} {T rd wr fr0:Fr} {W:List WE} {Y rl lo0:Lo} {O:Ob} {K:Fr→Lo→Ob→Prop} {v u:AV} {π:List Nat} {dep:List (List Nat)}
def RZ (π:List Nat) (l:List Oper):Bool:=IQ π l.length&&w5 (FV l []) 0 l
theorem sP {l:List Oper} {fr:Fr} {lo:Lo} {O:Ob} {id:Nat} (π:List Nat) (hB:RZ π l=true) (h:eD P n l.toArray base π (FV l []) fr lo l.length fr lo O [] fun T Y O=>a7 T=true∧aC P n l.toArray [] ⟨T,[],Y,O,base⟩ (QE .normal)) (hm:P.follows .mixedOrders=true:=by rfl) (hf:a7 fr=true:=by rfl):CWp P n (.region id l.toArray true) ⟨fr,[],lo,O,base⟩ QE:=by
  intro G a w K hr hfx hK
  refine wp_region_any hm ?_
  unfold RZ at hB
  rw [Bool.and_eq_true] at hB
  obtain ⟨hr1,hk1⟩:fU P G n ⟨fr,[],lo,O,base⟩ a {w with drawn:=w.drawn+1}∧Keep G w G {w with drawn:=w.drawn+1}:=by
    obtain ⟨h1,h2⟩:=hr.1.later (rO w)
    exact ⟨⟨h1,hr.2⟩,h2⟩
  have hrep:∀i,(Array.replicate l.toArray.size false).getD i false=false:=fun i=>by simp [Array.getElem?_replicate];split<;>rfl
  refine eD.sound hB.1 hB.2 hf l.length fr lo O [] h rfl rfl rfl (by simp) (fun _ h=>by cases h) l.toArray.size _ ⟨by simp,fun k _ _=>hrep _,fun i hi=>by rw [hrep] at hi;cases hi⟩ ?_ (fun j w h=>by simp at h) G a _ hr1 (hfx.keep hk1) fun T Y O G' a' w' hr' hk' hh=>?_
  ·unfold s5
   rw [List.filter_eq_self.2 fun i _=>by rw [hrep];rfl]
   simp
  ·have:=hh.2 G' a' w' K (RelE.of hr'.1 hh.1 hr'.2) ((hfx.keep hk1).keep hk') fun e' G2 a2 w2 hq hr2 hk2=>hK _ _ _ _ _ hq hr2 (hk1.trans (hk'.trans hk2))
   exact this
theorem oAt (i:Nat) (h:ops[i]? =some o) (hi:at' π W.length=i:=by rfl):ops[at' π W.length]? =some o:=by rw [hi];exact h
theorem gcg {ι:Type} (g0:ι) (wr:ι→Fr) (O1:ι→Ob) (ho:ops[at' π W.length]? =some o) (rd:Fr) (hr:gI T rd) (h:∀fr X,a7 fr=true→aC P n ops [o] ⟨rd++fr,[],X,O,base⟩ fun e'=>∃g,e'=⟨wr g++(rd++fr),[],X,O1 g,base⟩) (hN:IP π dep (W.length+r+1) W.length=true)
    (hc:∀g,a7 (wr g)=true∧(oL π dep (W++[⟨rd,wr g,[],[],none,true,some (O1 g)⟩])&&s4 π dep fr0 lo0 (W++[⟨rd,wr g,[],[],none,true,some (O1 g)⟩]))=true) (k:∀g,eD P n ops base π dep fr0 lo0 r (wr g++T) Y (O1 g) (W++[⟨rd,wr g,[],[],none,true,some (O1 g)⟩]) K):eD P n ops base π dep fr0 lo0 (r+1) T Y O W K:=
  .inr ⟨ι,g0,fun g=>⟨rd,wr g,[],[],none,true,some (O1 g)⟩,o,ho,hr,trivial,fun fr X O' hf hO=>by
    cases hO rfl
    intro G a w K' hr hfx hK
    exact h fr X hf G a w K' hr hfx fun e' G' a' w' hq=>by
      obtain ⟨g,rfl⟩:=hq
      exact hK _ G' a' w' ⟨g,_,rfl,fun _=>rfl⟩,hN,fun g=>⟨rfl,rfl,rfl,(hc g).1,(hc g).2⟩,k⟩
theorem QR (ho:ops[at' π W.length]? =some o) (rd:Fr) (rl:Lo) (ro:Bool) (hr:gI T rd) (hl:oJ Y rl) (h:∀fr X O',a7 fr=true→(ro=true→O'=O)→aC P n ops [o] ⟨rd++fr,[],rl++X,O',base⟩ fun e'=>e'=⟨wr++(rd++fr),[],rl++X,O',base⟩) (k:eD P n ops base π dep fr0 lo0 r (wr++T) Y O (W++[⟨rd,wr,rl,[],none,ro,none⟩]) K) (hw:a7 wr=true:=by rfl):eD P n ops base π dep fr0 lo0 (r+1) T Y O W K:=
  .inl ⟨⟨rd,wr,rl,[],none,ro,none⟩,o,ho,hr,hl,hw,fun fr X O' hf hO _=>by
    intro G a w K' hr hfx hK
    exact h fr X O' hf hO G a w K' hr hfx fun e' G' a' w' hq=>hK e' G' a' w' ⟨_,hq,fun _=>rfl⟩,k⟩
theorem XF (ho:ops[at' π W.length]? =some o) (rd:Fr) (rl:Lo) (hr:gI T rd) (hl:oJ Y rl) (h:∀fr X O',a7 fr=true→aC P n ops [o] ⟨rd++fr,[],rl++X,O',base⟩ fun e'=>e'=⟨(d,[],v)::(rd++fr),[],rl++X,O',base⟩) (k:eD P n ops base π dep fr0 lo0 r ((d,[],v)::T) Y O (W++[⟨rd,[(d,[],v)],rl,[],none,false,none⟩]) K):eD P n ops base π dep fr0 lo0 (r+1) T Y O W K:=
  QR (wr:=[(d,[],v)]) ho rd rl false hr hl (fun fr X O' hf _=>h fr X O' hf) k
theorem UL (ho:ops[at' π W.length]? =some o) (rd:Fr) (hr:gI T rd) (h:∀fr X,a7 fr=true→aC P n ops [o] ⟨rd++fr,[],X,O,base⟩ fun e'=>e'=⟨(d,[],v)::(rd++fr),[],X,O,base⟩) (k:eD P n ops base π dep fr0 lo0 r ((d,[],v)::T) Y O (W++[⟨rd,[(d,[],v)],[],[],none,true,none⟩]) K):eD P n ops base π dep fr0 lo0 (r+1) T Y O W K:=
  QR (wr:=[(d,[],v)]) ho rd [] true hr trivial (fun fr X O' hf hO=>by cases hO rfl;exact h fr X hf) k
theorem XI {O1:Ob} (ho:ops[at' π W.length]? =some o) (rd:Fr) (hr:gI T rd) (h:∀fr X,a7 fr=true→aC P n ops [o] ⟨rd++fr,[],X,O,base⟩ fun e'=>e'=⟨wr++(rd++fr),[],X,O1,base⟩) (k:eD P n ops base π dep fr0 lo0 r (wr++T) Y O1 (W++[⟨rd,wr,[],[],none,true,some O1⟩]) K) (hw:a7 wr=true:=by rfl):eD P n ops base π dep fr0 lo0 (r+1) T Y O W K:=
  .inl ⟨⟨rd,wr,[],[],none,true,some O1⟩,o,ho,hr,trivial,hw,fun fr X O' hf hO _=>by
    cases hO rfl
    intro G a w K' hr hfx hK
    exact h fr X hf G a w K' hr hfx fun e' G' a' w' hq=>hK e' G' a' w' ⟨_,hq,fun _=>rfl⟩,k⟩
theorem XK {cs cs':List AV} {k0:Nat} (ho:ops[at' π W.length]? =some o) (rd:Fr) (hr:gI T rd) (hl:a6 Y k0=some cs) (h:∀fr X O',a7 fr=true→aC P n ops [o] ⟨rd++fr,[],(k0,cs)::X,O',base⟩ fun e'=>e'=⟨wr++(rd++fr),[],(k0,cs')::(k0,cs)::X,O',base⟩) (k:eD P n ops base π dep fr0 lo0 r (wr++T) ((k0,cs')::Y) O (W++[⟨rd,wr,[(k0,cs)],[(k0,cs')],none,false,none⟩]) K) (hw:a7 wr=true:=by rfl):eD P n ops base π dep fr0 lo0 (r+1) T Y O W K:=
  .inl ⟨⟨rd,wr,[(k0,cs)],[(k0,cs')],none,false,none⟩,o,ho,hr,⟨hl,trivial⟩,hw,fun fr X O' hf hO _=>by
    intro G a w K' hr hfx hK
    exact h fr X O' hf G a w K' hr hfx fun e' G' a' w' hq=>hK e' G' a' w' ⟨_,hq,fun _=>rfl⟩,k⟩
theorem XG [I:HasTab P] {cs:List AV} (ho:ops[at' π W.length]? =some o) (h:∀fr X O',lX (HasTab.T P) (HasTab.Z P) n ops [] [] ⟨fr,[],X,O',base⟩ o=ok0 (CZ n ⟨fr,[],X,O',base⟩ d [] (some cs)) []) (hn:Nat.blt d n=true) (hs:cs.all (fun c=>c.scalar&&c.flat)=true) (k:eD P n ops base π dep fr0 lo0 r ((d,[],.lptr d 0)::T) ((d,cs)::Y) O (W++[⟨[],[(d,[],.lptr d 0)],[],[(d,cs)],some d,false,none⟩]) K):eD P n ops base π dep fr0 lo0 (r+1) T Y O W K:=
  .inl ⟨⟨[],[(d,[],.lptr d 0)],[],[(d,cs)],some d,false,none⟩,o,ho,trivial,trivial,rfl,fun fr X O' hf _ ha=>by
    obtain ⟨h1,h2⟩:=ha d rfl
    exact nW I.tok I.zok (q:=[]) ((h fr X O').trans (by rw [PT hn h1 h2 hs];rfl)) trivial (aW ⟨_,rfl,fun _=>rfl⟩),k⟩
theorem XJ [I:HasTab P] {q:List (Nat×Nat)} {H':List Nat} (ho:ops[at' π W.length]? =some o) (H:List Nat) (rl:Lo) (hs:vY T (gD o.op.operands.toList) (fun f=>some f)=some rd) (hl:oJ Y rl) (h:∀fr X O',lX (HasTab.T P) (HasTab.Z P) n ops [] H ⟨rd++fr,[],rl++X,O',base⟩ o=some (⟨(d,[],v)::(rd++fr),[],rl++X,O',base⟩,q,H')) (hq:iC q) (k:eD P n ops base π dep fr0 lo0 r ((d,[],v)::T) Y O (W++[⟨rd,[(d,[],v)],rl,[],none,false,none⟩]) K) (hT:a7 T=true:=by rfl):eD P n ops base π dep fr0 lo0 (r+1) T Y O W K:=by
  rw [vZ] at hs
  cases hs
  exact QR (wr:=[(d,[],v)]) ho _ rl false (sO hT _) hl (fun fr X O' _ _=>nW I.tok I.zok (h fr X O') hq (aW rfl)) k
theorem W7 [I:HasTab P] {q:List (Nat×Nat)} {H':List Nat} (ho:ops[at' π W.length]? =some o) (H:List Nat) (hs:vY T (gD o.op.operands.toList) (fun f=>some f)=some rd) (h:∀fr X,lX (HasTab.T P) (HasTab.Z P) n ops [] H ⟨rd++fr,[],X,O,base⟩ o=some (⟨(d,[],v)::(rd++fr),[],X,O,base⟩,q,H')) (hq:iC q) (k:eD P n ops base π dep fr0 lo0 r ((d,[],v)::T) Y O (W++[⟨rd,[(d,[],v)],[],[],none,true,none⟩]) K) (hT:a7 T=true:=by rfl):eD P n ops base π dep fr0 lo0 (r+1) T Y O W K:=by
  rw [vZ] at hs
  cases hs
  exact UL ho _ (sO hT _) (fun fr X _=>nW I.tok I.zok (h fr X) hq (aW rfl)) k
theorem XH [I:HasTab P] (ho:ops[at' π W.length]? =some o) (hs:vY T (gD o.op.operands.toList) (fun f=>some f)=some rd) (h:∀fr X O',lX (HasTab.T P) (HasTab.Z P) n ops [] [] ⟨rd++fr,[],X,O',base⟩ o=ok0 (EK n ⟨rd++fr,[],X,O',base⟩ d [] (some v)) []) (hp:∀fr X O',fI n ⟨rd++fr,[],X,O',base⟩ d [] (some v)=some ⟨(d,[],v)::(rd++fr),[],X,O',base⟩) (k:eD P n ops base π dep fr0 lo0 r ((d,[],v)::T) Y O (W++[⟨rd,[(d,[],v)],[],[],none,false,none⟩]) K) (hT:a7 T=true:=by rfl):eD P n ops base π dep fr0 lo0 (r+1) T Y O W K:=by
  rw [vZ] at hs
  cases hs
  have hr:=sO hT (gD o.op.operands.toList)
  refine QR (wr:=[(d,[],v)]) ho _ [] false hr trivial (fun fr X O' hf _=>nW I.tok I.zok (q:=[]) (H':=[]) ((h fr X O').trans ?_) trivial (aW rfl)) k
  unfold EK
  have e:wA [] ((List.map (fun s=>(s,[],bX T [] s)) (gD o.op.operands.toList))++fr)=true:=sbF (wU hT hr) hf
  simp only [e,rN,Bool.and_self,cond_true]
  rw [hp];rfl
section
variable {m:Nat}
def dB (m:Nat) (P:Program) (n:Nat) (ops:Array Oper) (base:Nat→Option (List AV)) (π:List Nat) (dep:List (List Nat)) (fr0:Fr) (lo0:Lo) (r:Nat) (T:Fr) (Y:Lo) (O:Ob) (W:List WE) (K:Fr→Lo→Ob→Prop):Prop:=W.length=m→eD P n ops base π dep fr0 lo0 r T Y O W K
theorem dB.of (h:dB 0 P n ops base π dep fr0 lo0 r T Y O [] K):eD P n ops base π dep fr0 lo0 r T Y O [] K:=h rfl
theorem dB.nil (hc:(oL π dep W&&s4 π dep fr0 lo0 W)=true) (h:K T Y O):dB m P n ops base π dep fr0 lo0 0 T Y O W K:=fun _=>⟨hc,h⟩
theorem kcg {ι:Type} (g0:ι) (wr:ι→Fr) (O1:ι→Ob) (i:Nat) (ho:ops[i]? =some o) (rd:Fr) (hr:gI T rd) (h:∀fr X,a7 fr=true→aC P n ops [o] ⟨rd++fr,[],X,O,base⟩ fun e'=>∃g,e'=⟨wr g++(rd++fr),[],X,O1 g,base⟩) (hN:IP π dep (W.length+r+1) W.length=true)
    (hc:∀g,a7 (wr g)=true∧(oL π dep (W++[⟨rd,wr g,[],[],none,true,some (O1 g)⟩])&&s4 π dep fr0 lo0 (W++[⟨rd,wr g,[],[],none,true,some (O1 g)⟩]))=true) (k:∀g,dB (m+1) P n ops base π dep fr0 lo0 r (wr g++T) Y (O1 g) (W++[⟨rd,wr g,[],[],none,true,some (O1 g)⟩]) K) (hi:at' π m=i:=by rfl):dB m P n ops base π dep fr0 lo0 (r+1) T Y O W K:=fun hm=>gcg (g0:=g0) (wr:=wr) (O1:=O1) (ho:=oAt i ho (by rw [hm];exact hi)) (rd:=rd) (hr:=hr) (h:=h) (hN:=hN) (hc:=hc) (k:=fun g=>k g (by rw [List.length_append,hm];rfl))
theorem TO (i:Nat) (ho:ops[i]? =some o) (rd:Fr) (rl:Lo) (hr:gI T rd) (hl:oJ Y rl) (h:∀fr X O',a7 fr=true→aC P n ops [o] ⟨rd++fr,[],rl++X,O',base⟩ fun e'=>e'=⟨(d,[],v)::(rd++fr),[],rl++X,O',base⟩) (k:dB (m+1) P n ops base π dep fr0 lo0 r ((d,[],v)::T) Y O (W++[⟨rd,[(d,[],v)],rl,[],none,false,none⟩]) K) (hi:at' π m=i:=by rfl):dB m P n ops base π dep fr0 lo0 (r+1) T Y O W K:=fun hm=>XF (ho:=oAt i ho (by rw [hm];exact hi)) (rd:=rd) (rl:=rl) (hr:=hr) (hl:=hl) (h:=h) (k:=k (by rw [List.length_append,hm];rfl))
theorem UM (i:Nat) (ho:ops[i]? =some o) (rd:Fr) (hr:gI T rd) (h:∀fr X,a7 fr=true→aC P n ops [o] ⟨rd++fr,[],X,O,base⟩ fun e'=>e'=⟨(d,[],v)::(rd++fr),[],X,O,base⟩) (k:dB (m+1) P n ops base π dep fr0 lo0 r ((d,[],v)::T) Y O (W++[⟨rd,[(d,[],v)],[],[],none,true,none⟩]) K) (hi:at' π m=i:=by rfl):dB m P n ops base π dep fr0 lo0 (r+1) T Y O W K:=fun hm=>UL (ho:=oAt i ho (by rw [hm];exact hi)) (rd:=rd) (hr:=hr) (h:=h) (k:=k (by rw [List.length_append,hm];rfl))
theorem WC {O1:Ob} (i:Nat) (ho:ops[i]? =some o) (rd:Fr) (hr:gI T rd) (h:∀fr X,a7 fr=true→aC P n ops [o] ⟨rd++fr,[],X,O,base⟩ fun e'=>e'=⟨wr++(rd++fr),[],X,O1,base⟩) (k:dB (m+1) P n ops base π dep fr0 lo0 r (wr++T) Y O1 (W++[⟨rd,wr,[],[],none,true,some O1⟩]) K) (hw:a7 wr=true:=by rfl) (hi:at' π m=i:=by rfl):dB m P n ops base π dep fr0 lo0 (r+1) T Y O W K:=fun hm=>XI (ho:=oAt i ho (by rw [hm];exact hi)) (rd:=rd) (hr:=hr) (h:=h) (k:=k (by rw [List.length_append,hm];rfl)) (hw:=hw)
theorem WD {cs cs':List AV} {k0:Nat} (i:Nat) (ho:ops[i]? =some o) (rd:Fr) (hr:gI T rd) (hl:a6 Y k0=some cs) (h:∀fr X O',a7 fr=true→aC P n ops [o] ⟨rd++fr,[],(k0,cs)::X,O',base⟩ fun e'=>e'=⟨wr++(rd++fr),[],(k0,cs')::(k0,cs)::X,O',base⟩) (k:dB (m+1) P n ops base π dep fr0 lo0 r (wr++T) ((k0,cs')::Y) O (W++[⟨rd,wr,[(k0,cs)],[(k0,cs')],none,false,none⟩]) K) (hw:a7 wr=true:=by rfl) (hi:at' π m=i:=by rfl):dB m P n ops base π dep fr0 lo0 (r+1) T Y O W K:=fun hm=>XK (ho:=oAt i ho (by rw [hm];exact hi)) (rd:=rd) (hr:=hr) (hl:=hl) (h:=h) (k:=k (by rw [List.length_append,hm];rfl)) (hw:=hw)
theorem XL [I:HasTab P] {cs:List AV} (i:Nat) (ho:ops[i]? =some o) (h:∀fr X O',lX (HasTab.T P) (HasTab.Z P) n ops [] [] ⟨fr,[],X,O',base⟩ o=ok0 (CZ n ⟨fr,[],X,O',base⟩ d [] (some cs)) []) (hn:Nat.blt d n=true) (hs:cs.all (fun c=>c.scalar&&c.flat)=true) (k:dB (m+1) P n ops base π dep fr0 lo0 r ((d,[],.lptr d 0)::T) ((d,cs)::Y) O (W++[⟨[],[(d,[],.lptr d 0)],[],[(d,cs)],some d,false,none⟩]) K) (hi:at' π m=i:=by rfl):dB m P n ops base π dep fr0 lo0 (r+1) T Y O W K:=fun hm=>XG (ho:=oAt i ho (by rw [hm];exact hi)) (h:=h) (hn:=hn) (hs:=hs) (k:=k (by rw [List.length_append,hm];rfl))
theorem bQ [I:HasTab P] {q:List (Nat×Nat)} {H':List Nat} (i:Nat) (ho:ops[i]? =some o) (H:List Nat) (rl:Lo) (hs:vY T (gD o.op.operands.toList) (fun f=>some f)=some rd) (hl:oJ Y rl) (h:∀fr X O',lX (HasTab.T P) (HasTab.Z P) n ops [] H ⟨rd++fr,[],rl++X,O',base⟩ o=some (⟨(d,[],v)::(rd++fr),[],rl++X,O',base⟩,q,H')) (hq:iC q) (k:dB (m+1) P n ops base π dep fr0 lo0 r ((d,[],v)::T) Y O (W++[⟨rd,[(d,[],v)],rl,[],none,false,none⟩]) K) (hT:a7 T=true:=by rfl) (hi:at' π m=i:=by rfl):dB m P n ops base π dep fr0 lo0 (r+1) T Y O W K:=fun hm=>XJ (ho:=oAt i ho (by rw [hm];exact hi)) (H:=H) (rl:=rl) (hs:=hs) (hl:=hl) (h:=h) (hq:=hq) (k:=k (by rw [List.length_append,hm];rfl)) (hT:=hT)
theorem AK [I:HasTab P] {q:List (Nat×Nat)} {H':List Nat} (i:Nat) (ho:ops[i]? =some o) (H:List Nat) (hs:vY T (gD o.op.operands.toList) (fun f=>some f)=some rd) (h:∀fr X,lX (HasTab.T P) (HasTab.Z P) n ops [] H ⟨rd++fr,[],X,O,base⟩ o=some (⟨(d,[],v)::(rd++fr),[],X,O,base⟩,q,H')) (hq:iC q) (k:dB (m+1) P n ops base π dep fr0 lo0 r ((d,[],v)::T) Y O (W++[⟨rd,[(d,[],v)],[],[],none,true,none⟩]) K) (hT:a7 T=true:=by rfl) (hi:at' π m=i:=by rfl):dB m P n ops base π dep fr0 lo0 (r+1) T Y O W K:=fun hm=>W7 (ho:=oAt i ho (by rw [hm];exact hi)) (H:=H) (hs:=hs) (h:=h) (hq:=hq) (k:=k (by rw [List.length_append,hm];rfl)) (hT:=hT)
theorem XM [I:HasTab P] (i:Nat) (ho:ops[i]? =some o) (hs:vY T (gD o.op.operands.toList) (fun f=>some f)=some rd) (h:∀fr X O',lX (HasTab.T P) (HasTab.Z P) n ops [] [] ⟨rd++fr,[],X,O',base⟩ o=ok0 (EK n ⟨rd++fr,[],X,O',base⟩ d [] (some v)) []) (hp:∀fr X O',fI n ⟨rd++fr,[],X,O',base⟩ d [] (some v)=some ⟨(d,[],v)::(rd++fr),[],X,O',base⟩) (k:dB (m+1) P n ops base π dep fr0 lo0 r ((d,[],v)::T) Y O (W++[⟨rd,[(d,[],v)],[],[],none,false,none⟩]) K) (hT:a7 T=true:=by rfl) (hi:at' π m=i:=by rfl):dB m P n ops base π dep fr0 lo0 (r+1) T Y O W K:=fun hm=>XH (ho:=oAt i ho (by rw [hm];exact hi)) (hs:=hs) (h:=h) (hp:=hp) (k:=k (by rw [List.length_append,hm];rfl)) (hT:=hT)
end
end
theorem V7 {z:Int} {d:Nat} {fr:Fr} {X:Lo} {O:Ob} {base:Nat→Option (List AV)}:(⟨(d,[],.lit (.int .u8 (IntKind.u8.wrap z)))::fr,[],X,O,base⟩:Es)=⟨(d,[],.lit (.int .u8 ((u8 z).toNat:Int)))::fr,[],X,O,base⟩:=by rw [US]
end
section
open Go.RowKit
def MG (x:Nat):Option Nat:=match FloatKind.f64.decode x with
  | .nan _ t=>if FloatKind.f64.format.quiet t=t then some x else none
  |d=>some (FloatKind.f64.encode (d.integral .down))
def R1 (x:Nat):Sem Value:=match FloatKind.f64.decode x with
  | .nan s t=>if FloatKind.f64.format.quiet t=t then pure (.float .f64 x) else do
      let kept ←choose (.extern "math.Floor,Ceil,Trunc,RoundToEven.signallingNaN kept" 2)
      pure (.float .f64 (if kept==1 then x else FloatKind.f64.encode (.nan s (FloatKind.f64.format.quiet t))))
  |d=>pure (.float .f64 (FloatKind.f64.encode (d.integral .down)))
theorem TL {x r:Nat} (h:MG x=some r):∀w,(callFunc 329 #[.float .f64 x]).run Tryz.prog w= .ok (.value (.float .f64 r)) w:=by
  intro w
  have e:(callFunc 329 #[.float .f64 x]).run Tryz.prog w=(R1 x>>=fun v=>pure (.value v)).run Tryz.prog w:=by kernel_rfl
  rw [e]
  unfold MG at h
  unfold R1
  cases hd:FloatKind.f64.decode x with
  |nan s t=>
   simp only [hd] at h ⊢
   split at h
   ·rename_i hq
    cases h
    rw [if_pos hq];rfl
   ·cases h
  |_=>simp only [hd] at h ⊢;cases h;rfl
end
section
open Go.RowKit
def CF (a b:List UInt8):Option Int:=some (Lib.compareBytes a b)
theorem wN {a b:List UInt8} {r:Int} (h:CF a b=some r):aI Tryz.prog 143 [.str a,.str b] (zI r):=by
  cases h
  refine aI.of fun M=>kF rfl ?_
  intro G w vs hm hfx hlen hrel
  obtain ⟨v,u,rfl,h1,h2⟩:=DV hlen hrel
  have e1:=gC h1
  have e2:=gC h2
  subst e1;subst e2
  refine (Tryz.strings_Compare ⟨a.toArray⟩ ⟨b.toArray⟩ w).mono ?_
  rintro e w' ⟨rfl,rfl⟩
  exact ⟨_,rfl,.lit _,Below.refl _ _⟩
def T6 (s p:List UInt8):Option (List UInt8×Bool):=if s.length≤4294967280 then some (Lib.trimSuffix s p,Lib.hasSuffix s p) else none
theorem WP {s p:List UInt8} {r:List UInt8×Bool} (h:T6 s p=some r):aI Tryz.prog 206 [.str s,.str p] (.tuple [.str r.1,zB r.2]):=by
  unfold T6 at h
  split at h
  ·rename_i hl
   cases h
   refine aI.of fun M=>bW.mono (pO (C:=fun cs=>cs=[.str (Lib.trimSuffix s p),.lit (.bool (Lib.hasSuffix s p))]) ?_) ?_
   ·intro G w vs hm hfx hlen hrel
    obtain ⟨v,u,rfl,h1,h2⟩:=DV hlen hrel
    have e1:=gC h1
    have e2:=gC h2
    subst e1;subst e2
    refine (Tryz.strings_CutSuffix ⟨s.toArray⟩ ⟨p.toArray⟩ w (by rw [pR];omega)).mono ?_
    rintro e w' ⟨rfl,rfl⟩
    refine ⟨_,[_,_],rfl,by simp [AV.flat],rfl,rfl,fun j x u hx hu=>?_,Below.refl _ _⟩
    match j,hx,hu with
    |0,hx,hu=>cases hx;cases hu;exact .str _
    |1,hx,hu=>cases hx;cases hu;exact .lit _
    |_+2,hx,hu=>cases hx
   ·rintro r M' ⟨⟨cs,rfl,rfl⟩,rfl⟩;exact ⟨rfl,rfl⟩
  ·cases h
def QL (s p:List UInt8):Option (List UInt8×List UInt8×Bool):=if s.length≤4294967280 then some (Lib.cut s p) else none
theorem R0 {s p:List UInt8} {r:List UInt8×List UInt8×Bool} (h:QL s p=some r):aI Tryz.prog 203 [.str s,.str p] (.tuple [.str r.1,.str r.2.1,zB r.2.2]):=by
  unfold QL at h
  split at h
  ·rename_i hl
   cases h
   refine aI.of fun M=>bW.mono (pO (C:=fun cs=>cs=[.str (Lib.cut s p).1,.str (Lib.cut s p).2.1,.lit (.bool (Lib.cut s p).2.2)]) ?_) ?_
   ·intro G w vs hm hfx hlen hrel
    obtain ⟨v,u,rfl,h1,h2⟩:=DV hlen hrel
    have e1:=gC h1
    have e2:=gC h2
    subst e1;subst e2
    refine (Tryz.strings_Cut_shaped ⟨s.toArray⟩ ⟨p.toArray⟩ w hfx.shaped (by rw [pR];omega)).mono ?_
    rintro e w' ⟨rfl,n,rfl⟩
    refine ⟨_,[_,_,_],rfl,by simp [AV.flat],rfl,rfl,fun j x u hx hu=>?_,(below_drewN (Below.refl _ _) n)⟩
    match j,hx,hu with
    |0,hx,hu=>cases hx;cases hu;exact .str _
    |1,hx,hu=>cases hx;cases hu;exact .str _
    |2,hx,hu=>cases hx;cases hu;exact .lit _
    |_+3,hx,hu=>cases hx
   ·rintro r M' ⟨⟨cs,rfl,rfl⟩,rfl⟩;exact ⟨rfl,rfl⟩
  ·cases h
def QZ (x y:Int):Option (Int×Int):=if 0≤x∧x<18446744073709551616∧0≤y∧y<18446744073709551616 then some (((x.toNat*y.toNat/18446744073709551616:Nat):Int),((x.toNat*y.toNat%18446744073709551616:Nat):Int)) else none
theorem SB {x y:Int} {r:Int×Int} (h:QZ x y=some r):aI Tryz.prog 220 [.lit (.int .u64 x),.lit (.int .u64 y)] (.tuple [.lit (.int .u64 r.1),.lit (.int .u64 r.2)]):=by
  unfold QZ at h
  split at h
  ·rename_i hb
   cases h
   refine aI.of fun M=>bW.mono (pO (C:=fun cs=>cs=[.lit (.int .u64 ((x.toNat*y.toNat/18446744073709551616:Nat):Int)),.lit (.int .u64 ((x.toNat*y.toNat%18446744073709551616:Nat):Int))]) ?_) ?_
   ·intro G w vs hm hfx hlen hrel
    obtain ⟨v,u,rfl,h1,h2⟩:=DV hlen hrel
    have e1:=pJ h1
    have e2:=pJ h2
    subst e1;subst e2
    have hc:=Tryz.bits_Mul64 x.toNat y.toNat (by omega) (by omega) w
    rw [Int.toNat_of_nonneg hb.1,Int.toNat_of_nonneg hb.2.2.1] at hc
    refine hc.mono ?_
    rintro e w' ⟨rfl,rfl⟩
    refine ⟨_,[_,_],rfl,by simp [AV.flat],rfl,rfl,fun j x u hx hu=>?_,Below.refl _ _⟩
    match j,hx,hu with
    |0,hx,hu=>cases hx;cases hu;exact .lit _
    |1,hx,hu=>cases hx;cases hu;exact .lit _
    |_+2,hx,hu=>cases hx
   ·rintro r M' ⟨⟨cs,rfl,rfl⟩,rfl⟩;exact ⟨rfl,rfl⟩
  ·cases h
def JK (x:Int):Option Int:=if 0≤x∧x≤18446744073709551615 then some (Lib.bitLen x.toNat:Int) else none
theorem EX {x r:Int} (h:JK x=some r):aI Tryz.prog 179 [.lit (.int .u64 x)] (zI r):=by
  unfold JK at h
  split at h
  ·rename_i hb
   cases h
   refine aI.of fun M=>kF rfl ?_
   intro G w vs hm hfx hlen hrel
   obtain ⟨v,rfl,h1⟩:=L1 hlen hrel
   have e1:=pJ h1
   subst e1
   refine (Tryz.bits_Len x w hb.1 hb.2).mono ?_
   rintro e w' ⟨rfl,rfl⟩
   exact ⟨_,rfl,.lit _,Below.refl _ _⟩
  ·cases h
def NW (s cut:List UInt8):Option (List UInt8):=if cut.all (fun b=>decide (b.toNat<128))=true∧cut.length≤1000∧s.length≤4294967280 then some (Lib.trimS s cut) else none
theorem T7 {s cut r:List UInt8} (h:NW s cut=some r):aI Tryz.prog 195 [.str s,.str cut] (.str r):=by
  unfold NW at h
  split at h
  ·rename_i e
   cases h
   refine aI.of fun M=>kF rfl ?_
   intro G w vs hm hfx hlen hrel
   obtain ⟨v,u,rfl,h1,h2⟩:=DV hlen hrel
   have e1:=gC h1
   have e2:=gC h2
   subst e1;subst e2
   refine (Any.strings_Trim_laid Tryz.lays160 (by kernel_rfl) ⟨s.toArray⟩ ⟨cut.toArray⟩ w (by rw [pR];omega) (by rw [pR];omega) (Go.Proofs.ascii_of_all e.1)).mono ?_
   rintro e w' ⟨rfl,hb⟩
   exact ⟨_,rfl,.str _,hb⟩
  ·cases h
end
section
open Go.RowKit
theorem TB {κ β:Type} [DecidableEq κ] {ke:κ→Value} {vf:β→AV} {S:List (κ×β)} {i0:Nat}:aO Tryz.prog 105 [.gmap i0] [(i0,aV ke vf S)] (fun v outs=>∃h0_:Nat,v= .gmap h0_∧outs=[(h0_,aV ke vf S),(i0,aV ke vf S)]):=by
  intro base hnd G w vs hm hfx hlen hrel
  obtain ⟨v,rfl,h1⟩:=L1 hlen hrel
  cases h1 with
  |gmap _ b0 hb0=>
  have hi0:lay [(i0,aV ke vf S)] base i0=some (aV ke vf S):=bP
  obtain ⟨b',hb',hX⟩:=hm.obj i0 _ hi0
  rw [hb0] at hb'
  cases hb'
  obtain ⟨es,clock,hh,ho1,ht1,he1,he4⟩:=hX.mapG
  refine (AnyW.maps_Clone Tryz.lw5 b0 es clock w hh).mono ?_
  rintro e w' ⟨rfl,rfl⟩
  obtain ⟨N,hN⟩:=hm.fin
  have hmb:G.mb N=none:=hN _ (Nat.le_refl _)
  have hNi:N≠i0:=fun e=>by rw [e,hb0] at hmb;cases hmb
  have hM:lay [(i0,aV ke vf S)] base N=none:=by
    cases hx:lay [(i0,aV ke vf S)] base N with
    |none=>rfl
    |some c=>obtain ⟨b,hb,_⟩:=hm.obj N c hx;rw [hmb] at hb;cases hb
  have hbN:base N=none:=by
    have h2:=hM
    show base N=none
    have h3:bA base i0 (aV ke vf S) N=none:=h2
    rwa [bT hNi] at h3
  have hfar:=hm.far
  have st1:Stab G w (G.new w.heap.size (.mb N) 0) (w.alloc (.map es clock)):=pK _ _ _ hfar
  have kp:=sI (.map es clock) (.mb N) 0 hfar
  let G':Gh:={G.new w.heap.size (.mb N) 0 with mb:=fun i=>if i=N then some w.heap.size else G.mb i}
  have hmbG:∀i b,G.mb i=some b→G'.mb i=some b:=fun i b h=>by
    show (if i=N then some w.heap.size else G.mb i)=some b
    rw [if_neg (fun e=>by subst e;rw [hmb] at h;cases h)];exact h
  have hid':G'.mb N=some w.heap.size:=by show (if N=N then some w.heap.size else G.mb N)=_;simp
  have stG:Stab G w G' (w.alloc (.map es clock)):=⟨st1.tip,st1.cell,hmbG⟩
  have hsz:w.heap.size≤(w.alloc (.map es clock)).heap.size:=by rw [size_alloc];omega
  have hm1:RelM Tryz.prog (G.new w.heap.size (.mb N) 0) (w.alloc (.map es clock)) (lay [(i0,aV ke vf S)] base):=
    hm.move st1 hsz (fun q b _ h1 h2=>vX _ _ _ _ b h1 h2) (fun b hb=>u1 _ _ _ hfar b hb) rfl
  have st2:Stab (G.new w.heap.size (.mb N) 0) (w.alloc (.map es clock)) G' (w.alloc (.map es clock)):=⟨fun _=>Nat.le_refl _,fun _ _ _=>rfl,hmbG⟩
  have hnew:(w.alloc (.map es clock)).heap[w.heap.size]? =some (.map es clock):=(MapKept.heap_alloc w _).1
  refine ⟨.gmap N,lay [(N,aV ke vf S),(i0,aV ke vf S)] base,G',_,rfl,⟨_,⟨N,rfl,rfl⟩,rfl,?_⟩,rfl,RelV.gmap N _ hid',⟨fun i cs hi=>?_,hm1.far,⟨N+1,fun i hi=>?_⟩⟩,⟨kp.os,kp.tape,kp.output,kp.size,kp.free,stG⟩⟩
  ·refine ⟨?_,fun i hi=>?_⟩
   ·simp [hNi]
   ·simp only [List.map_cons,List.map_nil,List.mem_cons,List.not_mem_nil,or_false] at hi
    rcases hi with rfl|rfl
    ·exact hbN
    ·exact hnd.2 _ (by simp)
  ·have hi':bA (lay [(i0,aV ke vf S)] base) N (aV ke vf S) i=some cs:=hi
   by_cases e:i=N
   ·subst e
    rw [bP] at hi'
    cases hi'
    refine ⟨w.heap.size,hid',.inr (.inr (.inr ⟨_,rfl,es,clock,hnew,?_,?_,he1,fun i k x h=>?_⟩))⟩
    ·show (if w.heap.size=w.heap.size then _ else _)=_;simp
    ·show (if w.heap.size=w.heap.size then _ else _)=_;simp
    ·obtain ⟨e,a1,a2⟩:=he4 i k x h
     exact ⟨e,a1,a2.stab stG⟩
   ·rw [bT e] at hi'
    obtain ⟨b2,hb2,hh2⟩:=hm1.obj i cs hi'
    exact ⟨b2,hmbG i b2 hb2,hh2.move st2 (Nat.le_refl _) (fun _ _=>⟨rfl,rfl,rfl⟩) (fun c b _ h2=>⟨h2,rfl,rfl⟩)⟩
  ·show (if i=N then some w.heap.size else G.mb i)=none
   rw [if_neg (by omega)];exact hN i (by omega)
def O8 {α:Type} (S:List α):Option (List α):=some S
theorem RY {κ β:Type} [DecidableEq κ] {ke:κ→Value} {vf:β→AV} {S r:List (κ×β)} {i0:Nat} (h:O8 S=some r):aO Tryz.prog 105 [.gmap i0] [(i0,aV ke vf S)] (fun v outs=>∃h0_:Nat,v= .gmap h0_∧outs=[(h0_,aV ke vf r),(i0,aV ke vf S)]):=by
  cases h;exact TB
end
end Go.Proofs.YtoolgdcjfkjlnaaGreatDoor
