import Derived.Test.YtobjgebojhjhnaaGreatDoorQr20
namespace Go.Proofs.YtobjgebojhjhnaaGreatDoor
set_option maxRecDepth 100000
set_option maxHeartbeats 16000000
open Go.RowKit Tryz
def bS (As At An:Option Addr) (ns cs nt ct nn cn:Nat):List Value:=[.slice As ns cs,.slice At nt ct,.slice An nn cn]
def gY:Cf:=⟨List.replicate 32 0,List.replicate 32 0,0,0⟩
theorem jV:gY.ok:=⟨by simp[gY],by simp[gY]⟩
theorem qQ:zeroCells74=(eT gY).toArray:=by kernel_rfl
theorem uB:zeroCells112=(dY ⟨List.replicate 32 0,List.replicate 32 0,0⟩).toArray:=by kernel_rfl
theorem JQ:(prog.info? 74).map (fun i=>(i.size,i.bytes))=some (66,80):=by kernel_rfl
theorem Gi:(prog.info? 74).map (fun i=>(i.zero.map (·.cells.size)))=some (some 66):=by kernel_rfl
theorem Hk:(prog.info? 3).map (·.size)=some 1:=by kernel_rfl
theorem Hm:(match prog.underlying 74 with|some (.struct fs)=>fs.toList.mapM (fun f=>(prog.info? f.type).map fun i=>(f.offset,i.size))|_=>none)=some [(0,32),(32,32),(64,1),(65,1)]:=by kernel_rfl
theorem MC:(prog.info? 74).map (·.zero)=some (some (.agg (eT gY).toArray)):=by kernel_rfl
theorem JR (x y:List UInt8) (p:Int) (hx:x.length=32) (hy:y.length=32):prog.built 74 [(0,.agg (cK x)),(1,.agg (cK y)),(2,.int .i64 p)]=some (eT ⟨x,y,p,0⟩).toArray:=by
 have hp:=Hm
 rw[Tk] at hp
 rw[fL Tk MC hp]
 have z32:((List.replicate 32 (0:UInt8)).map bv).length=32:=rfl
 show Instr.fill _ (([]++((List.replicate 32 (0:UInt8)).map bv++((List.replicate 32 (0:UInt8)).map bv++ [Value.int .i64 0,Value.int .i64 0]))):List Value).toArray _=some (x.map bv++(y.map bv++ [Value.int .i64 p,Value.int .i64 0])).toArray
 generalize (List.replicate 32 (0:UInt8)).map bv=Z at*
 refine Eq.trans (dA [] Z (x.map bv) _ (off:=0) (size:=32) rfl rfl (by simpa using hx) rfl z32) ?_
 rw[show ([]++(x.map bv++(Z++ [Value.int .i64 0,Value.int .i64 0])):List Value)=x.map bv++(Z++ [Value.int .i64 0,Value.int .i64 0]) from rfl]
 refine Eq.trans (dA (x.map bv) Z (y.map bv) _ (off:=32) (size:=32) rfl rfl (by simpa using hy) (by simpa using hx) z32) ?_
 rw[show (x.map bv++(y.map bv++ [Value.int .i64 0,Value.int .i64 0]):List Value)=(x.map bv++y.map bv)++([Value.int .i64 0]++ [Value.int .i64 0]) by simp]
 refine Eq.trans (dA (x.map bv++y.map bv) [Value.int .i64 0] [Value.int .i64 p] _ (off:=64) (size:=1) rfl rfl rfl (by simp[hx,hy]) rfl) ?_
 simp[Instr.fill]
def fF (ns:List Nd) (tip:Int) (s:Sn):Cf:=⟨s.id,s.blk,s.pos,match bZ ns s.blk with
 |some i=>rV ns tip i
 |none=>0⟩
theorem kD {ns:List Nd} {tip:Int} {s:Sn} (h:s.ok):(fF ns tip s).ok:=h
theorem MD {c:Cf} (h:c.ok) (k:Nat):(eT c).set 65 (.int .i64 (k:Int))=eT {c with dep:=k}:=by
 unfold eT
 rw[List.set_append_right _ _ (by simp[h.1]),List.set_append_right _ _ (by simp[h.1,h.2])]
 simp[h.1,h.2]
theorem Xm46 {p q:Prop} (k:q) (h:Hid q→p:=by
 intro hk
 go_enter func53,ntmps53
 go_upto_region 1 with fail
 rw[← hW.out,← hH.out]
 go_upto_region 2 with (first
  |((with_reducible refine LM r1 SS ?_ ?_ (hi:=by rw[k1.out];kernel_rfl));rfl)
  |((with_reducible refine LM r2 SS ?_ ?_ (hi:=by rw[k2.out];kernel_rfl));rfl)
  |((with_reducible refine cF (.agg (eT c0).toArray) ?_ ?_);exact dC (cs:=eT c0) (ops:=[(0,.tmp 11),(1,.tmp 13),(2,.tmp 15)]) rfl hbt.out)
  |((with_reducible refine bF 74 ((Below.refl W.heap.size W).alloc LR _) (heap_alloc_new _ _) LR (eT c0) ?_ ?_ 66 ?_ ?_ ?_ ?_ ?_);rfl;rfl;exact l0.out;kernel_rfl;(rw[List.size_toArray];exact hzl.out);exact one0.out;intro w2 a2 b2 q2 z2;clear q2))
 rw[sW.out] at a2 ⊢
 clear z2
 have vv:=vW.b b2
 have rr:=rW.b b2
 have qq:w2.rangeAt H 32 (s.blk.map bv):=by have:=mR sok (aW.b b2).range0;rwa [Nat.zero_add] at this
 have bb:=bW.trans (b2.mono bW.size)
 rename_i zq0 zq1 zq2 zq3 zq4
 revert zq0 w2 a2 b2 zq1 zq2 zq3 zq4 vv rr qq bb;exact hk.out):p:=h (Hy k)
theorem NX (v:Value) (ns:List Nd) (ok:nH ns) (tip:Int) (htip: -9223372036854775808≤tip∧tip≤9223372036854775807) (s:Sn) (sok:s.ok) (w:World) (hv:mB w v ns):
  Calls prog 53 #[.agg (dY s).toArray,v,.int .i64 tip] w fun e w'=>e= .returned (.agg (eT (fF ns tip s)).toArray)∧Below w.heap.size w w':=by
 have hzc:=qQ
 obtain⟨zs,hzs⟩:=Nm (eT gY)
 have hzl:zs.length=66:=by rw[hzs];exact cH jV
 rw[← hzs] at hzc
 clear hzs
 have HF:=fun w' r=>Ae v ns s.blk sok.2 w' r
 obtain⟨W,hW⟩:=Nm ((w.alloc (.cells (dY s).toArray 112)).alloc (.cells zs.toArray 74))
 obtain⟨H,hH⟩:=Nm (w.heap.size)
 have aW:Av W H 112 (dY s):=by rw[hW,hH];exact heap_alloc2_old _ _ _
 have rW:Av W (H+1) 74 zs:=by rw[hW,hH];exact heap_alloc2_new _ _ _
 refine Xm82 ?_;intro bW
 have sW:W.heap.size=H+2:=by rw[hW,hH];simp
 have vW:=hv.b bW
 have r1:W.rangeAt H 0 (s.id.map bv):=nE aW.range0
 have r2:W.rangeAt H 32 (s.blk.map bv):=by have:=mR sok aW.range0;rwa [Nat.zero_add] at this
 have c3:=aW.cell 64 _ (rK sok)
 have k1:=Hy (show (s.id.map bv).length=32 by rw[List.length_map,sok.1])
 have k2:=Hy (show (s.blk.map bv).length=32 by rw[List.length_map,sok.2])
 have hbt:=Hy (JR s.id s.blk s.pos sok.1 sok.2)
 obtain⟨c0,hc0⟩:∃ c0:Cf,c0=⟨s.id,s.blk,s.pos,0⟩:=⟨_,rfl⟩
 have c0ok:c0.ok:=by rw[hc0];exact sok
 have l0:=Hy (cH c0ok)
 have one0:=Hy (List.all_eq_true.2 (jA c0))
 rw[← hc0] at hbt
 obtain⟨Z,hZ⟩:=Nm (fF ns tip s)
 rw[← hZ]
 have lZ:(eT Z).length=66:=by rw[hZ];exact cH (kD sok)
 have oneZ:=Hy (List.all_eq_true.2 (jA Z))
 have hH1:w.heap.size≤H+1:=by omega
 have hzN:=wT
 replace lZ:=Hy lZ
 replace hH:=Hy hH
 replace hW:=Hy hW
 replace sW:=Hy sW
 replace hzl:=Hy hzl
 replace HF:=Hy HF
 replace hc0:=Hy hc0
 cases hf:bZ ns s.blk with
 |none=>
  have eZ:Z=c0:=by rw[hZ,hc0.out,fF,hf]
  rw[hf] at HF
  replace eZ:=Hy eZ
  replace hZ:=Hy hZ
  replace hf:=Hy hf
  refine Xm46 ?_;intro _ w2 a2 b2 _ _ _ _ vv rr qq bb
  go_upto_region 5 with (first
   |((with_reducible refine LM qq SS ?_ ?_ (hi:=by rw[k2.out];kernel_rfl));rfl)
   |(go_at_call 45;refine(HF.out w2 vv).mono ?_;rintro e w3 ⟨rfl,b3⟩))
  have a3:=a2.b b3
  have r3:=rr.b b3
  have b4:=bb.trans (b3.mono bb.size)
  go_wp2_with (first
   |((with_reducible refine LF a3 66 l0.out Tk ?_ ?_);rfl)
   |((with_reducible refine SF b4 r3 hH1 (eT c0) 66 ?_ ?_ ?_ (hn:=l0.out) (ho:=hzl.out) (h1:=one0.out));rfl;rfl;intro w6 a6 b6 k6 z6))
  refine bodyPost_ret (results_cell_row rfl _ _ (H+1) _ _ (0,0) _ bM a6 Tk rfl (by rw[List.size_toArray,l0.out];kernel_rfl)) rfl ⟨by rw[eZ.out],b6⟩
 |some i=>
  have hi:=oP hf
  have HD:=fun w' r=>OZ v ns ok tip htip i hi w' r
  obtain⟨d,hd⟩:=Nm (rV ns tip i)
  have eZ:Z= {c0 with dep:=d}:=by rw[hZ,hc0.out,fF,hf,hd]
  have hset:=MD c0ok d
  rw[← eZ] at hset
  rw[← hd] at HD
  rw[hf] at HF
  replace hset:=Hy hset
  replace eZ:=Hy eZ
  replace hZ:=Hy hZ
  replace hf:=Hy hf
  replace hd:=Hy hd
  replace HD:=Hy HD
  have l66:=Hy (show 65<(eT c0).length by rw[l0.out];omega)
  refine Xm46 ?_;intro _ w2 a2 b2 _ _ _ _ vv rr qq bb
  go_upto_region 4 with (first
   |((with_reducible refine LM qq SS ?_ ?_ (hi:=by rw[k2.out];kernel_rfl));rfl)
   |(go_at_call 45;refine(HF.out w2 vv).mono ?_;rintro e w3 ⟨rfl,b3⟩))
  have a3:=a2.b b3
  have r3:=rr.b b3
  have v3:=vv.b b3
  have b4:=bb.trans (b3.mono bb.size)
  go_upto_region 5 with (first
   |(go_at_call 77;refine(HD.out w3 v3).mono ?_;rintro e w5 ⟨rfl,b5⟩;have a5:=a3.b b5)
   |((with_reducible refine cR 3 a5 l66.out .i64 (d:Int) ?_ ?_ Hk ?_);rfl;rfl;intro w6 a6 f6))
  have r5:=f6.av (r3.b b5) OM
  have b7:=b4.trans ((b5.mono b4.size).trans (f6.b (B:=w.heap.size) (fun k hk=>by have:=hH.out;omega) (b4.trans (b5.mono b4.size)).size))
  rw[hset.out] at a6
  go_wp2_with (first
   |((with_reducible refine LF a6 66 lZ.out Tk ?_ ?_);rfl)
   |((with_reducible refine SF b7 r5 hH1 (eT Z) 66 ?_ ?_ ?_ (hn:=lZ.out) (ho:=hzl.out) (h1:=oneZ.out));rfl;rfl;intro w8 a8 b8 k8 z8))
  refine bodyPost_ret (results_cell_row rfl _ _ (H+1) _ _ (0,0) _ bM a8 Tk rfl (by rw[List.size_toArray,lZ.out];kernel_rfl)) rfl ⟨rfl,b8⟩
def lJ (ns:List Nd) (tip:Int) (x:List UInt8) (s:Sn):Bool:=s.id==x && decide (0<(fF ns tip s).dep)
def iT (ns:List Nd) (tip:Int) (x:List UInt8) (l:List Sn):Cf × Bool:=match l.find? (lJ ns tip x) with
 |some s=>(fF ns tip s,true)
 |none=>(gY,false)
theorem xL {ns:List Nd} {tip:Int} {x:List UInt8} {l:List Sn} {s:Sn} {j:Nat} (hs:l[j]? =some s) (h:lJ ns tip x s=true) (hl:∀ i,i<j→ ∀ z,l[i]? =some z→lJ ns tip x z=false):iT ns tip x l=(fF ns tip s,true):=by
 unfold iT
 obtain⟨h1,h2⟩:=List.getElem?_eq_some_iff.1 hs
 rw[List.find?_eq_some_iff_getElem.2 ⟨h,j,h1,h2,fun i hi=>by simp[hl i hi _ (List.getElem?_eq_getElem OM)]⟩]
theorem Ax {ns:List Nd} {tip:Int} {x:List UInt8} {l:List Sn} (hl:∀ i,i<l.length→ ∀ z,l[i]? =some z→lJ ns tip x z=false):iT ns tip x l=(gY,false):=by
 unfold iT
 rw[List.find?_eq_none.2 fun z hz=>by
  obtain⟨i,hi,rfl⟩:=List.getElem_of_mem hz
  rw[hl i hi _ (List.getElem?_eq_getElem hi)]
  simp]
theorem Xm104 {p q:Prop} (k:q) (h:Hid q→p:=by
 intro hk
 obtain⟨ys,hyy⟩:=Nm (dY ⟨List.replicate 32 0,List.replicate 32 0,0⟩)
 have hyl:ys.length=65:=by rw[hyy];rfl
 rw[← hyy] at hzs
 clear hyy
 revert ys hzs hyl;exact hk.out):p:=h (Hy k)
theorem JS (As At An:Option Addr) (ns cs nt ct nn cn:Nat) (l:List Sn) (hn:l.length=nn) (hm:nn≤1000000) (v:Value) (ds:List Nd) (ok:nH ds) (tip:Int) (htip: -9223372036854775808≤tip∧tip≤9223372036854775807) (x:List UInt8) (hx:x.length=32) (w:World) (hv:mB w v ds) (hr:dI w An l):
  Calls prog 18 #[.agg (bS As At An ns cs nt ct nn cn).toArray,v,.int .i64 tip,.agg (x.map bv).toArray] w fun e w'=>e= .returned (.tuple #[.agg (eT (iT ds tip x l).1).toArray,.bool (iT ds tip x l).2])∧Below w.heap.size w w':=by
 have hzc:=qQ
 have hzs:=uB
 obtain⟨zs,hzz⟩:=Nm (eT gY)
 have hzl:zs.length=66:=by rw[hzz];exact cH jV
 have hzo:zs.all (·.oneCell')=true:=by rw[hzz];exact List.all_eq_true.2 (jA _)
 rw[← hzz] at hzc
 refine Xm104 ?_;try clear hzs;intro ys hzs hyl
 obtain⟨R,hR⟩:=Nm (iT ds tip x l)
 rw[← hR]
 obtain⟨W,hW⟩:=Nm (((w.alloc (.cells (bS As At An ns cs nt ct nn cn).toArray 51)).alloc (.cells (x.map bv).toArray 35)).alloc (.cells zs.toArray 74))
 obtain⟨H,hH⟩:=Nm (w.heap.size)
 have aW:Av W H 51 (bS As At An ns cs nt ct nn cn):=by rw[hW,hH];exact Av.alloc (heap_alloc2_old _ _ _) _
 have iW:Av W (H+1) 35 (x.map bv):=by rw[hW,hH];exact Av.alloc (heap_alloc2_new _ _ _) _
 have rW:Av W (H+2) 74 zs:=by
  have e:∀ (v:World) (o:Obj),(v.alloc o).heap.size=v.heap.size+1:=fun v o=>by simp
  have:=heap_alloc_new ((w.alloc (.cells (bS As At An ns cs nt ct nn cn).toArray 51)).alloc (.cells (x.map bv).toArray 35)) (.cells zs.toArray 74)
  rw[e,e] at this
  rw[hW,hH];exact this
 have bW:Below w.heap.size w W:=by rw[hW];exact(((Below.refl _ _).alloc LR _).alloc zS _).alloc zU _
 have sW:W.heap.size=H+3:=by rw[hW,hH];simp
 have c2:=aW.cell 2 (.slice An nn cn) rfl
 have hHs:w.heap.size≤H:=by rw[hH];exact Nat.le_refl _
 have x32:=Hy (show (x.map bv).length=32 by rw[List.length_map,hx])
 have hbd:Hid (∀ (a:Act) (w':World) d tp pos af,(execOp a.eval ⟨d,.build 74 #[],tp,pos,af,none⟩).run prog w'= .ok (.value (.agg zs.toArray)) w'):=Hy (fun a w' d tp pos af=>by rw[hzz];kernel_rfl)
 have hzz':=Hy hzz
 clear hzz
 replace hR:=Hy hR
 replace hW:=Hy hW
 replace hH:=Hy hH
 replace sW:=Hy sW
 replace hzl:=Hy hzl
 replace hzo:=Hy hzo
 replace hyl:=Hy hyl
 replace hn:=Hy hn
 replace hHs:=Hy hHs
 go_enter func18,ntmps18
 go_upto_region 1 with fail
 rw[← hW.out,← hH.out]
 go_wp2
 clear c2
 go_loopw [16] (fun i wr=>∃ j:Nat,j≤nn∧i= .int .i64 (j:Int)∧Below w.heap.size w wr∧Av wr (H+1) 35 (x.map bv)∧Av wr (H+2) 74 zs∧Hid (∀ i,i<j→ ∀ z,l[i]? =some z→lJ ds tip x z=false)) (fun i _=>nn - (intOf i).toNat)
 case atStart=>exact⟨0,by omega,rfl,bW,iW,rW,Hy (fun i hi=>by omega)⟩
 case round=>
  clear aW iW rW
  obtain⟨j,hj,rfl,bw,iB,rB,hf⟩:=hrel
  have hH2:w.heap.size≤H+2:=by have:=hHs.out;omega
  by_cases hlt:j<nn
  ·have t2:decide ((j:Int)<(nn:Int))=true:=by simp;omega
   obtain⟨s,hs⟩:∃ s,l[j]? =some s:=⟨_,List.getElem?_eq_getElem (by rw[hn.out];exact hlt)⟩
   obtain⟨b,off,rfl⟩:=hr.adr (by rw[hn.out];omega)
   obtain⟨rs,sok⟩:=(hr.b bw).nth j s hs
   have s65:=Hy (dD sok)
   have sone:=Hy (List.all_eq_true.2 (kC s))
   have k1:=Hy (show (s.id.map bv).length=32 by rw[List.length_map,sok.1])
   have N1:=Gf s.id x sok.1 hx
   obtain⟨q,hq⟩:=Nm ((s.id==x))
   rw[← hq] at N1
   obtain⟨C,hC⟩:=Nm (fF ds tip s)
   have Cok:C.ok:=by rw[hC];exact kD sok
   have HC:=fun w' r=>NX v ds ok tip htip s sok w' r
   rw[← hC] at HC
   have C66:=Hy (cH Cok)
   have Cone:=Hy (List.all_eq_true.2 (jA C))
   obtain⟨_,q65⟩:=qP Cok
   have hl:lJ ds tip x s=(q && decide (0<C.dep)):=by rw[lJ,hq,hC]
   have m0:0≤(j:Int):=by omega
   have m1:(j:Int)<(nn:Int):=by omega
   replace N1:=Hy N1
   replace hq:=Hy hq
   replace hs:=Hy hs
   replace hC:=Hy hC
   replace HC:=Hy HC
   replace hl:=Hy hl
   replace q65:=Hy q65
   have hnext:lJ ds tip x s=false→Hid (∀ i,i<j+1→ ∀ z,l[i]? =some z→lJ ds tip x z=false):=fun h0=>Hy (fun i hi z hz=>by
    by_cases e:i=j
    ·subst e
     rw[hs.out] at hz
     rw[← Option.some.inj hz]
     exact h0
    ·exact hf.out i OM z hz)
   replace hnext:=Hy hnext
   go_upto_region 4 with (first
    |((with_reducible refine LM rs Td ?_ ?_ (hi:=by rw[s65.out];kernel_rfl));rfl)
    |((with_reducible refine bF 112 ((Below.refl wr.heap.size wr).alloc LR _) (heap_alloc_new _ _) LR (dY s) ?_ ?_ 65 ?_ ?_ ?_ ?_ ?_);rfl;rfl;exact s65.out;kernel_rfl;(rw[List.size_toArray];exact hyl.out);exact sone.out;intro w2 a2 b2 q2 z2;clear q2))
   obtain⟨G,hG⟩:=Nm (wr.heap.size)
   rw[← hG] at a2 ⊢
   have bw2:=bw.trans (b2.mono bw.size)
   have i2:=iB.b b2
   have r2:=rB.b b2
   have ri:w2.rangeAt G 0 (s.id.map bv):=nE a2.range0
   have v2:=hv.b bw2
   replace hG:=Hy hG
   replace z2:=Hy z2
   cases q
   ·have hf2:=hnext.out (by rw[hl.out];rfl)
    go_wp2_with (first
     |((with_reducible refine LM ri SS ?_ ?_ (hi:=by rw[k1.out];kernel_rfl));rfl)
     |((with_reducible refine LF i2 32 x32.out SS ?_ ?_);rfl)
     |((with_reducible refine dF (op:=.neq) (ty:=35) ?_ ?_ ?_ (N1.out _ _ w2) ?_);rfl;rfl;rfl;simp only[Bool.not_false]))
    refine⟨⟨j+1,by omega,by go_num,bw2,i2,r2,hf2⟩,?_⟩
    simp[intOf]
    omega
   ·go_upto_region 5 with (first
     |((with_reducible refine LM ri SS ?_ ?_ (hi:=by rw[k1.out];kernel_rfl));rfl)
     |((with_reducible refine LF i2 32 x32.out SS ?_ ?_);rfl)
     |((with_reducible refine dF (op:=.neq) (ty:=35) ?_ ?_ ?_ (N1.out _ _ w2) ?_);rfl;rfl;rfl;simp only[Bool.not_true]))
    go_upto_region 6 with (first
     |((with_reducible refine LF a2 65 s65.out Td ?_ ?_);rfl)
     |(go_at_call 53;refine(HC.out w2 v2).mono ?_;rintro e w3 ⟨rfl,b3⟩)
     |((with_reducible refine bF 74 ((Below.refl w3.heap.size w3).alloc LR _) (heap_alloc_new _ _) LR (eT C) ?_ ?_ 66 ?_ ?_ ?_ ?_ ?_);rfl;rfl;exact C66.out;kernel_rfl;(rw[List.size_toArray];exact hzl.out);exact Cone.out;intro w4 a4 b4 q4 z4;clear q4))
    obtain⟨F,hF⟩:=Nm (w3.heap.size)
    rw[← hF] at a4 ⊢
    have b34:=b3.trans (b4.mono b3.size)
    have bw4:=bw2.trans (b34.mono bw2.size)
    have i4:=i2.b b34
    have r4:=r2.b b34
    have c65:=a4.cell 65 _ q65.out
    replace hF:=Hy hF
    replace z4:=Hy z4
    by_cases hd:0<C.dep
    ·have t3:decide ((0:Int)<(C.dep:Int))=true:=by simp;omega
     have t4:decide (0<C.dep)=true:=by simpa using hd
     have eR:R=(C,true):=by
      rw[hR.out,xL hs.out (by rw[hl.out,t4];rfl) hf.out,← hC.out]
     go_wp2_with (first
      |((with_reducible refine LF a4 66 C66.out Tk ?_ ?_);rfl)
      |((with_reducible refine SF bw4 r4 hH2 (eT C) 66 ?_ ?_ ?_ (hn:=C66.out) (ho:=hzl.out) (h1:=Cone.out));rfl;rfl;intro w6 a6 b6 k6 z6))
     refine bodyPost_ret (v:=.tuple #[.agg (eT C).toArray,.bool true]) ((aK (C:=eT C) bM bM a6 _ Tk rfl 66 C66.out KR).trans bM) bM ?_
     exact⟨by rw[eR],b6⟩
    ·have t3:decide ((0:Int)<(C.dep:Int))=false:=by simp;omega
     have t4:decide (0<C.dep)=false:=by simpa using hd
     have hf2:=hnext.out (by rw[hl.out,t4];rfl)
     replace hd:=Hy hd
     go_wp2
     refine⟨⟨j+1,by omega,by go_num,bw4,i4,r4,hf2⟩,?_⟩
     simp[intOf]
     omega
  ·obtain rfl:j=nn:=by omega
   have t2:decide ((j:Int)<(j:Int))=false:=by simp
   have eR:R=(gY,false):=by rw[hR.out,Ax (by rw[hn.out];exact hf.out)]
   go_wp2_with (first
    |((with_reducible refine cF (.agg zs.toArray) ?_ ?_);exact hbd.out _ _ _ _ _ _)
    |((with_reducible refine SF bw rB hH2 zs 66 ?_ ?_ ?_ (hn:=hzl.out) (ho:=hzl.out) (h1:=hzo.out));rfl;rfl;intro w6 a6 b6 k6 z6))
   refine bodyPost_ret (v:=.tuple #[.agg zs.toArray,.bool false]) ((aK (C:=zs) bM bM a6 _ Tk rfl 66 hzl.out KR).trans bM) bM ?_
   exact⟨by rw[eR,← hzz'.out],b6⟩
theorem RI (As At An:Option Addr) (ns cs nt ct nn cn:Nat) (l:List Sn) (hn:l.length=nn) (hm:nn≤100000) (v:Value) (ds:List Nd) (ok:nH ds) (tip:Int) (htip: -9223372036854775808≤tip∧tip≤9223372036854775807) (w:World) (hv:mB w v ds) (hr:dI w An l):
  Calls prog 25 #[.agg (bS As At An ns cs nt ct nn cn).toArray,v,.int .i64 tip] w fun e w'=>∃ u,e= .returned u∧w'.ownsRow w.heap.size 74 66 u nn (yK (l.map (fF ds tip)))∧Below w.heap.size w w':=by
 have hzs:=uB
 refine Xm104 ?_;try clear hzs;intro ys hzs hyl
 obtain⟨W,hW⟩:=Nm (w.alloc (.cells (bS As At An ns cs nt ct nn cn).toArray 51))
 obtain⟨H,hH⟩:=Nm (w.heap.size)
 have aW:Av W H 51 (bS As At An ns cs nt ct nn cn):=by rw[hW,hH];exact heap_alloc_new _ _
 refine Xm90 ?_;intro bW
 have c2:=aW.cell 2 (.slice An nn cn) rfl
 replace hW:=Hy hW
 replace hH:=Hy hH
 replace hyl:=Hy hyl
 replace hn:=Hy hn
 go_enter func25,ntmps25
 go_upto_region 1 with fail
 rw[← hW.out,← hH.out]
 go_wp2
 clear c2 aW
 go_loopw [7,13] (fun u i wr=>∃ j:Nat,j≤nn∧i= .int .i64 (j:Int)∧Below w.heap.size w wr∧wr.ownsRow w.heap.size 74 66 u j (yK ((l.take j).map (fF ds tip)))) (fun _ i _=>nn - (intOf i).toNat)
 case atStart=>exact⟨0,by omega,rfl,bW,World.ownsRow_nil _ _ _ _⟩
 case round=>
  obtain⟨j,hj,rfl,bw,ow⟩:=hrel
  by_cases hlt:j<nn
  ·have t2:decide ((j:Int)<(nn:Int))=true:=by simp;omega
   obtain⟨s,hs⟩:∃ s,l[j]? =some s:=⟨_,List.getElem?_eq_getElem (by rw[hn.out];exact hlt)⟩
   obtain⟨b,off,rfl⟩:=hr.adr (by rw[hn.out];omega)
   obtain⟨rs,sok⟩:=(hr.b bw).nth j s hs
   have s65:=Hy (dD sok)
   have sone:=Hy (List.all_eq_true.2 (kC s))
   obtain⟨C,hC⟩:=Nm (fF ds tip s)
   have Cok:C.ok:=by rw[hC];exact kD sok
   have HC:=fun w' r=>NX v ds ok tip htip s sok w' r
   rw[← hC] at HC
   have C66:=Hy (cH Cok)
   have Cone:=Hy (jA C)
   have el:Hid (yK ((l.take j).map (fF ds tip))++eT C=yK ((l.take (j+1)).map (fF ds tip))):=Hy (by
    rw[List.take_add_one,hs,hC]
    simp[yK])
   have m0:0≤(j:Int):=by omega
   have m1:(j:Int)<(nn:Int):=by omega
   replace hs:=Hy hs
   replace hC:=Hy hC
   replace HC:=Hy HC
   replace ow:=Hy ow
   go_upto_region 5 with (first
    |((with_reducible refine LM rs Td ?_ ?_ (hi:=by rw[s65.out];kernel_rfl));rfl)
    |((with_reducible refine bF 112 ((Below.refl wr.heap.size wr).alloc LR _) (heap_alloc_new _ _) LR (dY s) ?_ ?_ 65 ?_ ?_ ?_ ?_ ?_);rfl;rfl;exact s65.out;kernel_rfl;(rw[List.size_toArray];exact hyl.out);exact sone.out;intro w2 a2 b2 q2 z2;clear q2;replace z2:=Hy z2))
   have bw2:=bw.trans (b2.mono bw.size)
   have v2:=hv.b bw2
   have ow2:=aJ ow.out b2
   clear ow
   go_upto_region 6 with (first
    |((with_reducible refine LF a2 65 s65.out Td ?_ ?_);rfl)
    |(go_at_call 53;refine(HC.out w2 v2).mono ?_;rintro e w3 ⟨rfl,b3⟩;have ow3:=aJ ow2 b3;have bw3:=bw2.trans (b3.mono bw2.size))
    |((with_reducible refine dQ underlying86 JQ Gi DC DC (eT C) C66.out rfl ?_))
    |(at_builtin;refine bT underlying86 JQ Gi DC (aJ ow3 ((Below.refl w3.heap.size w3).alloc LR _)) (by have:=bw3.size;simp;omega) (eT C) 1 1 (Av.rd (t:=74) (heap_alloc_new _ _)) (by rw[C66.out]) Cone.out OM OM rfl (.tmp 17) (.tmp 22) rfl rfl rfl ?_;intro v4 w4 o4 gr4 ob4))
   have bw4:=fK (bw3.alloc bw3.size _) (aJ ow3 ((Below.refl w3.heap.size w3).alloc LR _)) gr4 (by have:=bw3.size;simp;omega)
   rw[el.out] at o4
   go_wp2
   refine⟨⟨j+1,by omega,by go_num,bw4,o4⟩,?_⟩
   simp[intOf]
   omega
  ·obtain rfl:j=nn:=by omega
   have t2:decide ((j:Int)<(j:Int))=false:=by simp
   have e5:l.take j=l:=List.take_of_length_le (by rw[hn.out];exact Nat.le_refl _)
   rw[e5] at ow
   replace e5:=Hy e5
   go_wp2
   go_ret
   exact⟨_,rfl,ow,bw⟩
theorem qR {P:Program} {t e:TypeId} {size bytes:Nat} (ht:P.underlying t=some (.slice e)) (hi:(P.info? e).map (fun i=>(i.size,i.bytes))=some (size,bytes)) (hz:(P.info? e).map (fun i=>(i.zero.map (·.cells.size)))=some (some size)) (h0:0<size) (hb:size≤1000000)
  {o:Oper} {ρ:Operand→Value} (w:World) (cs:List Value) (hc:cs.length=size) (V:Value) (hV:V.cells=cs.toArray) (y:Operand) (ho:o.op= .buildSlice t 1 #[(0,y)]) (hy:ρ y=V):
  (execOp ρ o).run P w= .ok (.value (.slice (some ⟨w.heap.size,0,none⟩) 1 1)) (w.alloc (.cells cs.toArray e)):=by
 obtain⟨i0,hi0,hz0⟩:=Option.map_eq_some_iff.1 hi
 obtain⟨i1,hi1,hz1⟩:=Option.map_eq_some_iff.1 hz
 obtain rfl:i1=i0:=by rw[hi0] at hi1;exact(Option.some.inj hi1).symm
 obtain⟨z,hz2,hz3⟩:=Option.map_eq_some_iff.1 hz1
 injection hz0 with hz4 hz5
 have:=run_buildSlice (P:=P) w t e 1 #[(0,V)] cs.toArray i1 z ht hi0 hz2 (by rw[hz4];omega) (by rw[hz4];omega) (by
  rw[hz4]
  have:=Great.fill_whole (s:=size) h0 [V] ((Array.range (1*size)).map (z.cells[· % z.cells.size]!)) (fun v hv=>by
   rw[List.mem_singleton.1 hv,hV];simp[hc]) zS
  simp only[List.zipIdx_cons,List.zipIdx_nil,List.map_cons,List.map_nil,Nat.zero_add] at this
  rw[this]
  simp[hV])
 unfold execOp
 simp only[ho,Sem.run_bind,List.map_toArray,List.map_cons,List.map_nil,hy,this,Result.andThen_ok]
 rfl
theorem cG {P:Program} {R:World→World→Prop} {w:World} {ok:VP} {r:Result Next} (f:FuncId) (args:Array Value) (he:r= .ok (.enter f args) w) (h:Calls P f args w fun e w''=>∃ v,e= .returned v∧R w w''∧ok v w''):pD P R w ok r:=by
 rw[he]
 exact h
theorem _root_.Go.World.ownsRow.lowS {w:World} {b base:Nat} {e:TypeId} {size n:Nat} {v:Value} {xs:List Value} (h:w.ownsRow base e size v n xs) (hb:b≤base):w.ownsRow b e size v n xs:=by
 obtain⟨h1,h2⟩:=h
 refine⟨h1,h2.imp id ?_⟩
 rintro⟨g,cap,cur,e1,hg,rest⟩
 exact⟨g,cap,cur,e1,Nat.le_trans hb hg,rest⟩
def iL (S:List (List UInt8)) (s:List UInt8):List (List UInt8) × Nat:=
 if S.contains s then (S,10) else if 10000<s.length then (S,3) else if 256≤S.length then (S,12) else (S++ [s],0)
def JU (b:Nat) (s:List UInt8):VP:=fun v w=>cE w b v s
theorem JU.mono {b:Nat} {s:List UInt8} {v:Value} {w w':World} (h:cI w w'):JU b s v w→JU b s v w':=fun o=>cE.b o h
def JV (b:Nat) (s:List UInt8):VP:=fun v w=>∃ k A c,v= .slice (some ⟨k,0,none⟩) 1 1∧Rd w (some ⟨k,0,none⟩) [.slice A s.length c]∧cE w b (.slice A s.length c) s
theorem JV.mono {b:Nat} {s:List UInt8} {v:Value} {w w':World} (h:cI w w'):JV b s v w→JV b s v w':=by
 rintro⟨k,A,c,rfl,h1,h2⟩
 exact⟨k,A,c,rfl,h1.b h,h2.b h⟩
theorem Az {w:World} {b b':Nat} {e e':TypeId} {size size' n n':Nat} {v v':Value} {xs xs':List Value} (h:w.ownsRow b e size v n xs) (h':w.ownsRow b' e' size' v' n' xs') (hne:e≠e'):∀ k,v.ownBlock=some k→v'.ownBlock≠some k:=by
 intro k hk hk'
 rcases h.2 with ⟨e1,_⟩|⟨g,cap,cur,e1,_,hg,_⟩
 ·rw[e1] at hk;cases hk
 ·rcases h'.2 with ⟨e2,_⟩|⟨g',cap',cur',e2,_,hg',_⟩
  ·rw[e2] at hk';cases hk'
  ·rw[e1] at hk
   rw[e2] at hk'
   injection hk with hk
   injection hk' with hk'
   subst hk
   subst hk'
   rw[hg] at hg'
   injection hg' with hg'
   injection hg' with _ h2 _
   exact hne h2
def Db (b n:Nat) (S:List (List UInt8 × Sl)):VP:=fun v w=>w.ownsRow b 27 1 v n (yU S)
theorem Db.mono {b n:Nat} {S:List (List UInt8 × Sl)} {v:Value} {w w':World} (h:cI w w'):Db b n S v w→Db b n S v w':=fun o=>aJ o h
theorem vF (A:Option Addr) (n c:Nat):∀ u ∈ [Value.slice A n c],u.oneCell'=true:=by
 intro u hu
 rw[List.mem_singleton.1 hu]
 rfl
theorem JW:(prog.info? 22).map (·.size)=some 1:=by kernel_rfl
theorem kE (As At An:Option Addr) (ns cs nt ct nn cn:Nat):(bS As At An ns cs nt ct nn cn).all (·.oneCell')=true:=rfl
theorem Xm15 {p q:Prop} (k:q) (h:Hid q→p:=by
 intro hk
 obtain⟨W,hW⟩:=Nm (((w.alloc (.cells (bS As At An ns cs nt ct nn cn).toArray 51)).alloc (.cells #[.slice B m d] 27)).alloc (.cells #[.slice none 0 0,.slice none 0 0,.slice none 0 0] 51))
 obtain⟨H,hH⟩:=Nm (w.heap.size)
 have aW:Av W H 51 (bS As At An ns cs nt ct nn cn):=by rw[hW,hH];exact Av.alloc (heap_alloc2_old _ _ _) _
 have sW:Av W (H+1) 27 [.slice B m d]:=by rw[hW,hH];exact Av.alloc (heap_alloc2_new _ _ _) _
 have zW:Av W (H+2) 51 [.slice none 0 0,.slice none 0 0,.slice none 0 0]:=by
  have e:∀ (v:World) (o:Obj),(v.alloc o).heap.size=v.heap.size+1:=fun v o=>by simp
  have:=heap_alloc_new ((w.alloc (.cells (bS As At An ns cs nt ct nn cn).toArray 51)).alloc (.cells #[.slice B m d] 27)) (.cells #[.slice none 0 0,.slice none 0 0,.slice none 0 0] 51)
  rw[e,e] at this
  rw[hW,hH];exact this
 have bW:Below w.heap.size w W:=by rw[hW];exact(((Below.refl _ _).alloc LR _).alloc zS _).alloc zU _
 revert W hW H hH aW sW zW bW;exact hk.out):p:=h (Hy k)
theorem EI (S:List (List UInt8 × Sl)) (As At An:Option Addr) (ns cs nt ct nn cn:Nat) (hS:S.length=ns) (s:List UInt8) (B:Option Addr) (m d:Nat) (hs:s.length=m) (hn:((S.map (·.1)).contains s)=false) (hm:m≤10000) (hf:ns<256) (w:World) (rS:dU w As S) (rs:Rd w B (s.map bv)):
  Calls prog 9 #[.agg (bS As At An ns cs nt ct nn cn).toArray,.slice B m d] w fun e w'=>∃ A' c' S',e= .returned (.tuple #[.agg (bS A' At An (ns+1) c' nt ct nn cn).toArray,.int .i64 0])∧S'.length=ns+1∧dU w' A' S'∧S'.map (·.1)=S.map (·.1)++ [s]∧Below w.heap.size w w':=by
 refine Xm15 ?_;intro W hW H hH aW sW zW bW
 have sz:W.heap.size=H+3:=by rw[hW,hH];simp
 have HI:=fun w' (r:dU w' As S) (q:Rd w' B (s.map bv)) (a:Av w' (H+1) 27 [.slice B m d])=>Qs S s As ns cs B m d (H+1) w' r hS OM q hs a
 rw[hn] at HI
 have HC:=fun w' (r:dU w' As S)=>OW S As ns cs w' r hS OM
 have HB:=fun w' (r:Rd w' B (s.map bv))=>Da s B m d w' r hs OM
 have c0:=aW.cell 0 (.slice As ns cs) rfl
 have c1:=sW.cell 0 (.slice B m d) rfl
 have t1:decide ((10000:Int)<(m:Int))=false:=by simp;omega
 have t2:decide ((256:Int)≤(ns:Int))=false:=by simp;omega
 have rSW:=rS.b bW
 have rsW:=rs.b bW
 replace hW:=Hy hW
 replace hH:=Hy hH
 replace sz:=Hy sz
 replace HI:=Hy HI
 replace HC:=Hy HC
 replace HB:=Hy HB
 replace hS:=Hy hS
 replace hs:=Hy hs
 replace hn:=Hy hn
 go_enter func9,ntmps9
 go_upto_region 1 with fail
 rw[← hW.out,← hH.out]
 go_upto_region 7 with (go_at_call 32;refine(HI.out W rSW rsW sW).mono ?_;rintro e w7 ⟨rfl,h7⟩;have h8:=h7.symm;clear h7;subst h8)
 have aW7:=aW
 have sW7:=sW
 have b7':=bW
 refine bL 6 [(2,Db W.heap.size ns S),(4,JU W.heap.size s),(5,JV W.heap.size s)] cI KR KR KR KR KR cI.refl cI.trans (by intro p hp v w w' hR;simp only[List.mem_cons,List.not_mem_nil,or_false] at hp;rcases hp with rfl|rfl|rfl;exact Db.mono hR;exact JU.mono hR;exact JV.mono hR) ?_
 repeat refine ZP (fun w hw=>by have:=(aW7.b hw.drew).cell 0 _ rfl;exact zG) ?_
 refine cO _ rfl (fun w hw=>aM rfl (bI rfl (cG 35 #[.slice As ns cs] (by go_simp) ((HC.out w (rS.b (b7'.trans (hw.drew.mono b7'.size)))).mono ?_)))) ?_
 ·rintro e w' ⟨v,rfl,o,b⟩
  exact⟨v,rfl,b,o.lowS (by have:=hw.drew.size;omega)⟩
 repeat refine ZP (fun w hw=>by have:=(sW7.b hw.drew).cell 0 _ rfl;exact zG) ?_
 refine cO _ rfl (fun w hw=>bN rfl (aM rfl (bI rfl (cG 36 #[.slice B m d] (by go_simp) ((HB.out w (rs.b (b7'.trans (hw.drew.mono b7'.size)))).mono ?_))))) ?_
 ·rintro e w' ⟨v,rfl,o,b⟩
  exact⟨_,rfl,b,o.low (by have:=hw.drew.size;omega)⟩
 refine cO _ rfl (fun w hw=>bN rfl (aC rfl rfl fun v hv=>bN rfl (aF (bI rfl ?_)))) ?_
 ·obtain⟨A',c',rfl,hc,_⟩:=cE.form hv
  rw[qR To xJ xK DC DC w [.slice A' s.length c'] rfl (.slice A' s.length c') rfl _ rfl (by rw[jG];rfl)]
  exact⟨(Below.refl _ _).alloc LR _,w.heap.size,A',c',rfl,Av.rd (t:=27) (heap_alloc_new _ _),cE.b hv ((Below.refl _ _).alloc LR _)⟩
 refine bO fun w2 hw2=>aC rfl rfl fun v1 hv1=>aC rfl rfl fun v2 hv2=>aC rfl rfl fun v3 hv3=>aF ?_
 clear hv2
 obtain⟨kq,A2,c2,rfl,q1,q2⟩:=hv3
 have B2:Below W.heap.size W w2:=hw2.drew
 have hsz:=B2.size
 obtain⟨Av1,cv1,rfl,_⟩:=cM hv1
 simp only[List.set_cons_succ,List.set_cons_zero,List.drop_succ_cons,List.drop_zero]
 have l1:([.slice A2 s.length c2]:List Value).length=1*1:=rfl
 have bo:=vF A2 s.length c2
 have hno:=Az q2 hv1 DC
 have hcap':s.length≤c2:=by
  obtain⟨A',c',e,hc,_⟩:=cE.form q2
  injection e with _ _ e3
  rw[e3];exact hc
 go_upto_region 8 with (first
  |(at_builtin;refine bT To xJ xK DC hv1 hsz [.slice A2 s.length c2] 1 1 q1 l1 bo OM OM rfl (.tmp 22) (.tmp 25) rfl rfl rfl ?_;intro v4 w4 o4 g4 _;have B4:=fK B2 hv1 g4 hsz;have a4:=aW.b B4;obtain⟨A4,c4,rfl,hc4,_⟩:=cM o4)
  |(refine iI rfl 22 _ _ rfl rfl a4 (Nat.zero_lt_succ _) A4 (ns+1) c4 rfl JW ?_))
 have S5:=a4.set 0 (.slice A4 (ns+1) c4)
 have z5:=(zW.b B4).other ⟨H,0,none⟩ (.slice A4 (ns+1) c4) (by show H+2≠H;omega)
 have hHw:w.heap.size≤H:=by rw[hH.out];exact Nat.le_refl _
 have hH2:w.heap.size≤H+2:=by omega
 have b5:=(bW.trans (B4.mono bW.size)).setCell (p:=⟨H,0,none⟩) hHw (.slice A4 (ns+1) c4)
 have own5:=bU o4 (Fr.setCell w4 ⟨H,0,none⟩ (.slice A4 (ns+1) c4)) (fun k hk e=>by
  have:=(World.ownsRow.lt o4 k hk).1
  have:=sz.out
  simp only at e
  omega)
 have q5:=bU q2 (Fr.of_grown g4) (fun k hk e=>hno k hk e.symm)
 have q6:=bU q5 (Fr.setCell w4 ⟨H,0,none⟩ (.slice A4 (ns+1) c4)) (fun k hk e=>by
  have:=(World.ownsRow.lt q5 k hk).1
  have:=sz.out
  simp only at e
  omega)
 obtain⟨w5,hw5⟩:=Nm (w4.setCell ⟨H,0,none⟩ (.slice A4 (ns+1) c4))
 rw[← hw5] at S5 z5 b5 own5 q6 ⊢
 have a5:Av w5 H 51 (bS A4 At An (ns+1) c4 nt ct nn cn):=S5
 have wone:=kE A4 At An (ns+1) c4 nt ct nn cn
 have l3:(bS A4 At An (ns+1) c4 nt ct nn cn).length=3:=rfl
 replace hw5:=Hy hw5
 clear S5 a4 o4 q2 q5 g4
 go_wp2_with (first
  |((with_reducible refine LF a5 3 l3 SZ ?_ ?_);rfl)
  |((with_reducible refine SF b5 z5 hH2 (bS A4 At An (ns+1) c4 nt ct nn cn) 3 ?_ ?_ ?_ (hn:=l3) (h1:=wone));rfl;rfl;intro w6 a6 b6 k6 z6))
 refine bodyPost_ret (v:=.tuple #[.agg (bS A4 At An (ns+1) c4 nt ct nn cn).toArray,.int .i64 0]) ((aK (C:=bS A4 At An (ns+1) c4 nt ct nn cn) bM bM a6 _ SZ rfl 3 l3 KR).trans bM) bM ?_
 have own6:=bU own5 (S:=fun k=>k=H+2) ⟨b6.os.trans b5.os.symm,b6.tape.trans b5.tape.symm,b6.output.trans b5.output.symm,by rw[z6];exact Nat.le_refl _,fun k _ hk=>k6 k hk⟩ (fun k hk e=>by
  have:=(World.ownsRow.lt own5 k hk).1
  have:=sz.out
  omega)
 have q7:=bU q6 (S:=fun k=>k=H+2) ⟨b6.os.trans b5.os.symm,b6.tape.trans b5.tape.symm,b6.output.trans b5.output.symm,by rw[z6];exact Nat.le_refl _,fun k _ hk=>k6 k hk⟩ (fun k hk e=>by
  have:=(World.ownsRow.lt q6 k hk).1
  have:=sz.out
  omega)
 refine⟨A4,c4,S++ [(s,(A2,c2))],rfl,by rw[List.length_append,hS.out];rfl,⟨?_,?_⟩,by simp,b6⟩
 ·have:=fV own6
  simpa [yU,BE] using this
 ·intro e he
  rcases List.mem_append.1 he with he|he
  ·exact(rS.b b6).2 e he
  ·rw[List.mem_singleton.1 he]
   exact⟨cE.rd q7,hcap'⟩
theorem Xm112 {p q:Prop} (k:q) (h:Hid q→p:=by
 intro hk
 have HI:=fun w' (r:dU w' As S) (q:Rd w' B (s.map bv)) (a:Av w' (H+1) 27 [.slice B m d])=>Qs S s As ns cs B m d (H+1) w' r hS OM q hs a
 rw[hn] at HI
 have c0:=aW.cell 0 (.slice As ns cs) rfl
 have c1:=sW.cell 0 (.slice B m d) rfl
 revert HI c0 c1;exact hk.out):p:=h (Hy k)
theorem yX (S:List (List UInt8 × Sl)) (As At An:Option Addr) (ns cs nt ct nn cn:Nat) (hS:S.length=ns) (hns:ns≤1000000) (s:List UInt8) (B:Option Addr) (m d:Nat) (hs:s.length=m) (hn:((S.map (·.1)).contains s)=true) (w:World) (rS:dU w As S) (rs:Rd w B (s.map bv)):
  Calls prog 9 #[.agg (bS As At An ns cs nt ct nn cn).toArray,.slice B m d] w fun e w'=>e= .returned (.tuple #[.agg (bS As At An ns cs nt ct nn cn).toArray,.int .i64 10])∧Below w.heap.size w w':=by
 refine Xm15 ?_;intro W hW H hH aW sW zW bW
 refine Xm112 ?_;intro HI c0 c1
 have rSW:=rS.b bW
 have rsW:=rs.b bW
 have hH2:w.heap.size≤H+2:=by omega
 have wone:=kE As At An ns cs nt ct nn cn
 have l3:(bS As At An ns cs nt ct nn cn).length=3:=rfl
 replace hW:=Hy hW
 replace hH:=Hy hH
 replace HI:=Hy HI
 replace hS:=Hy hS
 replace hs:=Hy hs
 replace hn:=Hy hn
 go_enter func9,ntmps9
 go_upto_region 1 with fail
 rw[← hW.out,← hH.out]
 go_wp2_with (first
  |(go_at_call 32;refine(HI.out W rSW rsW sW).mono ?_;rintro e w7 ⟨rfl,h7⟩;have h8:=h7.symm;clear h7;subst h8)
  |((with_reducible refine LF aW 3 l3 SZ ?_ ?_);rfl)
  |((with_reducible refine SF bW zW hH2 (bS As At An ns cs nt ct nn cn) 3 ?_ ?_ ?_ (hn:=l3) (h1:=wone));rfl;rfl;intro w6 a6 b6 k6 z6))
 refine bodyPost_ret (v:=.tuple #[.agg (bS As At An ns cs nt ct nn cn).toArray,.int .i64 10]) ((aK (C:=bS As At An ns cs nt ct nn cn) bM bM a6 _ SZ rfl 3 l3 KR).trans bM) bM ?_
 exact⟨rfl,b6⟩
theorem Dc (S:List (List UInt8 × Sl)) (As At An:Option Addr) (ns cs nt ct nn cn:Nat) (hS:S.length=ns) (hns:ns≤1000000) (s:List UInt8) (B:Option Addr) (m d:Nat) (hs:s.length=m) (hn:((S.map (·.1)).contains s)=false) (hb:10000<m) (w:World) (rS:dU w As S) (rs:Rd w B (s.map bv)):
  Calls prog 9 #[.agg (bS As At An ns cs nt ct nn cn).toArray,.slice B m d] w fun e w'=>e= .returned (.tuple #[.agg (bS As At An ns cs nt ct nn cn).toArray,.int .i64 3])∧Below w.heap.size w w':=by
 refine Xm15 ?_;intro W hW H hH aW sW zW bW
 refine Xm112 ?_;intro HI c0 c1
 have t1:decide ((10000:Int)<(m:Int))=true:=by simp;omega
 have rSW:=rS.b bW
 have rsW:=rs.b bW
 have hH2:w.heap.size≤H+2:=by omega
 have wone:=kE As At An ns cs nt ct nn cn
 have l3:(bS As At An ns cs nt ct nn cn).length=3:=rfl
 replace hW:=Hy hW
 replace hH:=Hy hH
 replace HI:=Hy HI
 replace hS:=Hy hS
 replace hs:=Hy hs
 replace hn:=Hy hn
 go_enter func9,ntmps9
 go_upto_region 1 with fail
 rw[← hW.out,← hH.out]
 go_wp2_with (first
  |(go_at_call 32;refine(HI.out W rSW rsW sW).mono ?_;rintro e w7 ⟨rfl,h7⟩;have h8:=h7.symm;clear h7;subst h8)
  |((with_reducible refine LF aW 3 l3 SZ ?_ ?_);rfl)
  |((with_reducible refine SF bW zW hH2 (bS As At An ns cs nt ct nn cn) 3 ?_ ?_ ?_ (hn:=l3) (h1:=wone));rfl;rfl;intro w6 a6 b6 k6 z6))
 refine bodyPost_ret (v:=.tuple #[.agg (bS As At An ns cs nt ct nn cn).toArray,.int .i64 3]) ((aK (C:=bS As At An ns cs nt ct nn cn) bM bM a6 _ SZ rfl 3 l3 KR).trans bM) bM ?_
 exact⟨rfl,b6⟩
theorem BK (S:List (List UInt8 × Sl)) (As At An:Option Addr) (ns cs nt ct nn cn:Nat) (hS:S.length=ns) (hns:ns≤1000000) (s:List UInt8) (B:Option Addr) (m d:Nat) (hs:s.length=m) (hn:((S.map (·.1)).contains s)=false) (hb:¬ 10000<m) (hf:256≤ns) (w:World) (rS:dU w As S) (rs:Rd w B (s.map bv)):
  Calls prog 9 #[.agg (bS As At An ns cs nt ct nn cn).toArray,.slice B m d] w fun e w'=>e= .returned (.tuple #[.agg (bS As At An ns cs nt ct nn cn).toArray,.int .i64 12])∧Below w.heap.size w w':=by
 refine Xm15 ?_;intro W hW H hH aW sW zW bW
 refine Xm112 ?_;intro HI c0 c1
 have t1:decide ((10000:Int)<(m:Int))=false:=by simp;omega
 have t2:decide ((256:Int)≤(ns:Int))=true:=by simp;omega
 have rSW:=rS.b bW
 have rsW:=rs.b bW
 have hH2:w.heap.size≤H+2:=by omega
 have wone:=kE As At An ns cs nt ct nn cn
 have l3:(bS As At An ns cs nt ct nn cn).length=3:=rfl
 replace hW:=Hy hW
 replace hH:=Hy hH
 replace HI:=Hy HI
 replace hS:=Hy hS
 replace hs:=Hy hs
 replace hn:=Hy hn
 go_enter func9,ntmps9
 go_upto_region 1 with fail
 rw[← hW.out,← hH.out]
 go_wp2_with (first
  |(go_at_call 32;refine(HI.out W rSW rsW sW).mono ?_;rintro e w7 ⟨rfl,h7⟩;have h8:=h7.symm;clear h7;subst h8)
  |((with_reducible refine LF aW 3 l3 SZ ?_ ?_);rfl)
  |((with_reducible refine SF bW zW hH2 (bS As At An ns cs nt ct nn cn) 3 ?_ ?_ ?_ (hn:=l3) (h1:=wone));rfl;rfl;intro w6 a6 b6 k6 z6))
 refine bodyPost_ret (v:=.tuple #[.agg (bS As At An ns cs nt ct nn cn).toArray,.int .i64 12]) ((aK (C:=bS As At An ns cs nt ct nn cn) bM bM a6 _ SZ rfl 3 l3 KR).trans bM) bM ?_
 exact⟨rfl,b6⟩
theorem Gj (S:List (List UInt8 × Sl)) (As At An:Option Addr) (ns cs nt ct nn cn:Nat) (hS:S.length=ns) (hns:ns≤1000000) (s:List UInt8) (B:Option Addr) (m d:Nat) (hs:s.length=m) (w:World) (rS:dU w As S) (rs:Rd w B (s.map bv)):
  Calls prog 9 #[.agg (bS As At An ns cs nt ct nn cn).toArray,.slice B m d] w fun e w'=>∃ A' n' c' S',e= .returned (.tuple #[.agg (bS A' At An n' c' nt ct nn cn).toArray,.int .i64 ((iL (S.map (·.1)) s).2:Int)])∧S'.length=n'∧dU w' A' S'∧S'.map (·.1)=(iL (S.map (·.1)) s).1∧Below w.heap.size w w':=by
 unfold iL
 cases hn:(S.map (·.1)).contains s with
 |true=>
  rw[if_pos rfl]
  exact(yX S As At An ns cs nt ct nn cn hS hns s B m d hs hn w rS rs).mono fun e w' ⟨h1,h2⟩=>⟨As,ns,cs,S,h1,hS,rS.b h2,rfl,h2⟩
 |false=>
  rw[if_neg DC]
  by_cases hb:10000<s.length
  ·rw[if_pos hb]
   exact(Dc S As At An ns cs nt ct nn cn hS hns s B m d hs hn OM w rS rs).mono fun e w' ⟨h1,h2⟩=>⟨As,ns,cs,S,h1,hS,rS.b h2,rfl,h2⟩
  ·rw[if_neg hb]
   by_cases hf:256≤(S.map (·.1)).length
   ·rw[if_pos hf]
    rw[List.length_map] at hf
    exact(BK S As At An ns cs nt ct nn cn hS hns s B m d hs hn OM OM w rS rs).mono fun e w' ⟨h1,h2⟩=>⟨As,ns,cs,S,h1,hS,rS.b h2,rfl,h2⟩
   ·rw[if_neg hf]
    rw[List.length_map] at hf
    exact(EI S As At An ns cs nt ct nn cn hS s B m d hs hn OM OM w rS rs).mono fun e w' ⟨A',c',S',h1,h2,h3,h4,h5⟩=>⟨A',ns+1,c',S',h1,h2,h3,h4,h5⟩
end Go.Proofs.YtobjgebojhjhnaaGreatDoor
