import Derived.Test.YtobjgebojhjhnaaGreatDoorQr28
import Derived.Test.YtobjgebojhjhnaaGreatDoorQr26
namespace Go.Proofs.YtobjgebojhjhnaaGreatDoor
set_option maxRecDepth 100000
set_option maxHeartbeats 16000000
open Go.RowKit Tryz
theorem QJ (A:Option Addr) (n c most:Nat) (ds:List Nd) (hn:ds.length=n) (ok:nH ds) (hs:n≤1048576) (tip:Int) (s:Sn) (sok:s.ok) (w:World) (hr:Rd w A (qF ds)):
  Calls prog 55 #[.agg #[.slice A n c,.int .i64 (most:Int)],.int .i64 tip,.agg (dY s).toArray] w fun e w'=>e= .returned (.agg (eT (fF ds tip s)).toArray)∧Below w.heap.size w w':=by
 have hzb:=rQ
 obtain⟨zs,hzz⟩:=Nm (eT gY)
 have hzl:zs.length=66:=by rw[hzz];exact cH jV
 rw[← hzz] at hzb
 clear hzz
 have HF:=fun (w':World) r=>JI s.blk sok.2 A n c most ds hn ok.nds hs w' r
 obtain⟨D,hD⟩:=Nm ((fF ds tip s).dep)
 have hcf:fF ds tip s=⟨s.id,s.blk,s.pos,D⟩:=by rw[hD];rfl
 rw[hcf]
 have hbt:=Dz s.id s.blk s.pos (D:Int) sok.1 sok.2
 obtain⟨C,hC⟩:=Nm (eT ⟨s.id,s.blk,s.pos,D⟩)
 rw[show s.id.map bv++(s.blk.map bv++ [Value.int .i64 s.pos,Value.int .i64 (D:Int)])=C by rw[hC];rfl] at hbt
 have lO:C.length=66:=by rw[hC];exact cH (s:=⟨s.id,s.blk,s.pos,D⟩) sok
 have oO:C.all (·.oneCell')=true:=by rw[hC];exact List.all_eq_true.2 (jA _)
 rw[← hC]
 obtain⟨W,hW⟩:=Nm (((w.alloc (.cells #[.slice A n c,.int .i64 (most:Int)] 47)).alloc (.cells (dY s).toArray 111)).alloc (.cells zs.toArray 77))
 obtain⟨H,hH⟩:=Nm (w.heap.size)
 have e:∀ (v:World) (o:Obj),(v.alloc o).heap.size=v.heap.size+1:=fun v o=>by simp
 have bW:Below w.heap.size w W:=by rw[hW];exact(((Below.refl _ _).alloc LR _).alloc zS _).alloc zU _
 have aT:Av W H 47 [.slice A n c,.int .i64 (most:Int)]:=by rw[hW,hH];exact Av.alloc (heap_alloc2_old _ _ _) _
 have aS:Av W (H+1) 111 (dY s):=by rw[hW,hH];exact Av.alloc (heap_alloc2_new _ _ _) _
 have aR:Av W (H+2) 77 zs:=by
  have:=heap_alloc_new ((w.alloc (.cells #[.slice A n c,.int .i64 (most:Int)] 47)).alloc (.cells (dY s).toArray 111)) (.cells zs.toArray 77)
  rw[e,e] at this
  rw[hW,hH];exact this
 have hHw:w.heap.size≤H+2:=by omega
 have k1:=Hy (show (s.id.map bv).length=32 by rw[List.length_map,sok.1])
 have k2:=Hy (show (s.blk.map bv).length=32 by rw[List.length_map,sok.2])
 have rW:=hr.b bW
 have hdep:∀ i,bZ ds s.blk=some i→(yV (nB ds tip) i).1=D:=fun i hi=>by
  rw[Hj ok tip (oP hi),hD,fF]
  simp only[hi]
 have hd0:bZ ds s.blk=none→D=0:=fun hi=>by
  rw[hD,fF]
  simp only[hi]
 have HDp:=fun (i:Nat) (w':World) r=>JP A n c most ds hn ok hs tip i w' r
 clear hr e hcf hD
 replace hdep:=Hy hdep
 replace hd0:=Hy hd0
 replace hC:=Hy hC
 replace hW:=Hy hW
 replace hH:=Hy hH
 replace lO:=Hy lO
 replace oO:=Hy oO
 replace hzl:=Hy hzl
 replace hbt:=Hy hbt
 replace HF:=Hy HF
 replace HDp:=Hy HDp
 have rb:W.rangeAt (H+1) 32 (s.blk.map bv):=by have:=mR sok aS.range0;rwa [Nat.zero_add] at this
 have bw:=bW
 obtain⟨K,E,HX,HX2⟩:∃ (K:Nat) (E:Bool),(Calls prog 50 #[.agg #[.slice A n c,.int .i64 (most:Int)],.agg (cK s.blk)] W fun e w'=>e= .returned (.tuple #[.int .i64 (K:Int),.bool E])∧Below W.heap.size W w')∧((E=false∧D=0)∨(E=true∧∃ z,∀ w',Rd w' A (qF ds)→Calls prog 78 #[.agg #[.slice A n c,.int .i64 (most:Int)],.int .i64 tip,.int .i64 (K:Int)] w' fun e w''=>e= .returned (.tuple #[.int .i64 (D:Int),.bool z])∧Below w'.heap.size w' w'')):=by
  have HX:=HF.out W rW
  cases hf:bZ ds s.blk with
  |none=>
   rw[qC,hf] at HX
   exact⟨_,_,HX,.inl ⟨rfl,hd0.out hf⟩⟩
  |some i=>
   rw[qC,hf] at HX
   refine⟨_,_,HX,.inr ⟨rfl,(yV (nB ds tip) i).2,fun w' r=>?_⟩⟩
   have:=HDp.out i w' r
   rw[hdep.out i hf] at this
   exact this
 replace HX:=Hy HX
 clear hd0 hdep HF HDp
 rcases HX2 with ⟨rfl,hD0⟩|⟨rfl,z,HY⟩
 all_goals
  first
   |subst hD0
   |replace HY:=Hy HY
  go_enter func55,ntmps55
  go_upto_region 1 with fail
  rw[← hW.out,← hH.out]
  go_upto_region 6 with (first
   |((with_reducible refine LH aT 2 Ta ?_ ?_);rfl)
   |((with_reducible refine LH (aT.b b2) 2 Ta ?_ ?_);rfl)
   |((with_reducible refine LM rb SS ?_ ?_ (hi:=by rw[k2.out];kernel_rfl));rfl)
   |(go_at_call 50;refine(HX.out).mono ?_;rintro e w2 ⟨rfl,b2⟩;have aS2:=aS.b b2;have aR2:=aR.b b2;have bw2:=bw.trans (b2.mono bw.size);have ri2:=nE aS2.range0;have rb2:w2.rangeAt (H+1) 32 (s.blk.map bv):=(by have:=mR sok aS2.range0;rwa [Nat.zero_add] at this);have e642:=aS2.cell 64 _ (rK sok))
   |(go_at_call 78;refine(HY.out w2 (rW.b b2)).mono ?_;rintro e w3 ⟨rfl,b3⟩;have aS3:=aS2.b b3;have aR3:=aR2.b b3;have bw3:=bw2.trans (b3.mono bw2.size);have ri3:=nE aS3.range0;have rb3:w3.rangeAt (H+1) 32 (s.blk.map bv):=(by have:=mR sok aS3.range0;rwa [Nat.zero_add] at this);have e643:=aS3.cell 64 _ (rK sok)))
  go_wp2_with (first
   |((with_reducible refine LM ri2 SS ?_ ?_ (hi:=by rw[k1.out];kernel_rfl));rfl)
   |((with_reducible refine LM rb2 SS ?_ ?_ (hi:=by rw[k2.out];kernel_rfl));rfl)
   |((with_reducible refine SF bw2 aR2 hHw C 66 ?_ ?_ ?_ (hn:=lO.out) (ho:=hzl.out) (h1:=oO.out));rfl;rfl;intro wY aY bY kY zY)
   |((with_reducible refine LM ri3 SS ?_ ?_ (hi:=by rw[k1.out];kernel_rfl));rfl)
   |((with_reducible refine LM rb3 SS ?_ ?_ (hi:=by rw[k2.out];kernel_rfl));rfl)
   |((with_reducible refine SF bw3 aR3 hHw C 66 ?_ ?_ ?_ (hn:=lO.out) (ho:=hzl.out) (h1:=oO.out));rfl;rfl;intro wY aY bY kY zY)
   |((with_reducible refine cF (.agg C.toArray) ?_ ?_);exact dC (cs:=C) (ops:=[(0,.tmp 29),(1,.tmp 31),(2,.tmp 33),(3,.tmp 34)]) rfl hbt.out))
  refine bodyPost_ret (results_cell_row rfl _ _ (H+2) _ _ (0,0) _ bM aY Tn rfl (by rw[List.size_toArray,lO.out];kernel_rfl)) rfl ⟨rfl,bY⟩
theorem BX:(prog.info? 77).map (fun i=>(i.size,i.bytes))=some (66,80):=by kernel_rfl
theorem BZ:(prog.info? 77).map (fun i=>(i.zero.map (·.cells.size)))=some (some 66):=by kernel_rfl
theorem Od (A:Option Addr) (n c most:Nat) (ds:List Nd) (hn:ds.length=n) (ok:nH ds) (hs:n≤1048576) (tip:Int) (As At An:Option Addr) (ns cs nt ct nn cn:Nat) (l:List Sn) (hl:l.length=nn) (hm:nn≤100000) (w:World) (hr:Rd w A (qF ds)) (rN:dI w An l):
  Calls prog 26 #[.agg (bS As At An ns cs nt ct nn cn).toArray,.agg #[.slice A n c,.int .i64 (most:Int)],.int .i64 tip] w fun e w'=>(∃ u,e= .returned u∧w'.ownsRow w.heap.size 77 66 u nn (yK (l.map (fF ds tip))))∧Below w.heap.size w w':=by
 obtain⟨W,hW⟩:=Nm ((w.alloc (.cells (bS As At An ns cs nt ct nn cn).toArray 26)).alloc (.cells #[.slice A n c,.int .i64 (most:Int)] 47))
 obtain⟨H,hH⟩:=Nm (w.heap.size)
 refine Xm82 ?_;intro bW
 have aW:Av W H 26 (bS As At An ns cs nt ct nn cn):=by rw[hW,hH];exact heap_alloc2_old _ _ _
 have aT:Av W (H+1) 47 [.slice A n c,.int .i64 (most:Int)]:=by rw[hW,hH];exact heap_alloc2_new _ _ _
 have rA:=hr.b bW
 have rN':=rN.b bW
 replace hW:=Hy hW
 replace hH:=Hy hH
 replace hl:=Hy hl
 go_enter func26,ntmps26
 go_upto_region 1 with fail
 rw[← hW.out,← hH.out]
 go_upto_region 3 with fail
 go_loopw [7,8] (fun u i wr=>∃ j:Nat,j≤nn∧i= .int .i64 (j:Int)∧Below W.heap.size W wr∧wr.ownsRow W.heap.size 77 66 u j (yK ((l.take j).map (fF ds tip)))) (fun _ i _=>nn - (intOf i).toNat)
 case atStart=>exact⟨0,by omega,rfl,Below.refl _ _,World.ownsRow_nil _ _ _ _⟩
 case round=>
  obtain⟨j,hj,rfl,bq,ow⟩:=hrel
  replace aW:=aW.b bq
  replace aT:=aT.b bq
  replace rA:=rA.b bq
  have c2:=aW.cell 2 (.slice An nn cn) rfl
  by_cases hlt:j<nn
  ·have t2:decide ((j:Int)<(nn:Int))=true:=by simp;omega
   obtain⟨s,hsj⟩:∃ s,l[j]? =some s:=⟨_,List.getElem?_eq_getElem (by rw[hl.out];exact hlt)⟩
   obtain⟨b,off,rfl⟩:=rN.adr (by rw[hl.out];omega)
   have rs:=Hy (fun w' b'=>((((rN'.b bq).b (w':=w') b').nth j s hsj).1))
   have sok:=(rN.nth j s hsj).2
   have s65:=Hy (dD sok)
   obtain⟨C,hC⟩:=Nm (fF ds tip s)
   have Cok:C.ok:=by rw[hC];exact kD sok
   have HC:=fun w' r=>QJ A n c most ds hn ok hs tip s sok w' r
   rw[← hC] at HC
   have C66:=Hy (cH Cok)
   have Cone:=Hy (jA C)
   have el:Hid (yK ((l.take j).map (fF ds tip))++eT C=yK ((l.take (j+1)).map (fF ds tip))):=Hy (by
    rw[List.take_add_one,hsj,hC]
    simp[yK])
   have m0:0≤(j:Int):=by omega
   have m1:(j:Int)<(nn:Int):=by omega
   replace hsj:=Hy hsj
   replace hC:=Hy hC
   replace HC:=Hy HC
   obtain⟨Ao,co,rfl,hco,_⟩:=cM ow
   go_upto_region 5 with fail
   clear c2
   refine bL 10 [(9,fun v w'=>∃ g,v= .slice (some ⟨g,0,none⟩) 1 1∧wr.heap.size≤g∧Av w' g 77 (eT C))] cI KR KR KR KR KR cI.refl cI.trans (by
    intro p hp v w w' hR
    simp only[List.mem_singleton] at hp
    subst hp
    rintro⟨g,e,h1,h2⟩
    exact⟨g,e,h1,h2.b hR⟩) ?_
   refine ZM ?_
   refine ZP (c:=.agg ([.slice A n c,.int .i64 (most:Int)]).toArray) (fun w hw=>aE (aT.b hw.drew) _ _ rfl rfl _ 2 rfl Ta rfl KR) ?_
   refine ZM ?_
   refine ZQ ?_
   refine ZP (c:=.slice (some ⟨b,off,none⟩) nn cn) (fun w hw=>by have:=(aW.b hw.drew).cell 2 (.slice (some ⟨b,off,none⟩) nn cn) rfl;go_simp;first|done|rfl) ?_
   refine ZM ?_
   refine ZP (c:=.pointer (some ⟨b,off+j*65,none⟩)) (fun w _=>by have:=m0;have:=m1;go_simp;first|done|rfl) ?_
   refine ZP (c:=.agg (dY s).toArray) (fun w hw=>bJ _ _ rfl b (off+j*65) rfl (dY s) _ (rs.out _ hw.drew) Tf rfl (by rw[s65.out];kernel_rfl)) ?_
   refine ZC (c:=.agg (eT C).toArray) 55 #[.agg #[.slice A n c,.int .i64 (most:Int)],.int .i64 tip,.agg (dY s).toArray] (fun w hw=>(HC.out w (rA.b hw.drew)).mono ?_) ?_
   ·rintro e w' ⟨rfl,b⟩
    exact⟨rfl,b⟩
   refine cO _ rfl (fun w hw=>aM rfl (bI rfl ?_)) ?_
   ·rw[lD TC BX BZ DC DC _ (eT C) C66.out _ rfl rfl]
    exact⟨(Below.refl _ _).alloc LR _,_,rfl,hw.drew.size,heap_alloc_new _ _⟩
   refine bO fun w6 hw6=>aC rfl rfl fun v hv=>aF ?_
   obtain⟨g,rfl,hg,ag⟩:=hv
   refine Xm140 ?_
   have e6:=hw6.drew
   have b6:=bq.trans (e6.mono bq.size)
   have o6:=aJ ow e6
   have s6:=b6.size
   clear hw6 e6 ow bq aW aT rs
   go_upto_region 4 with (at_builtin;refine bT TC BX BZ DC o6 s6 (eT C) 1 1 ag.rd (by rw[C66.out]) Cone.out OM OM rfl (.tmp 16) (.tmp 25) rfl rfl rfl ?_;intro v7 w7 o7 gr7 _)
   have b7:=fK b6 o6 gr7 s6
   rw[el.out] at o7
   replace o7:=Hy o7
   clear o6 gr7 b6 ag
   go_wp2
   refine⟨⟨j+1,by omega,by go_num,b7,o7.out⟩,?_⟩
   simp[intOf]
   omega
  ·obtain rfl:j=nn:=by omega
   have t2:decide ((j:Int)<(j:Int))=false:=by simp
   rw[List.take_of_length_le (by rw[hl.out];exact Nat.le_refl _)] at ow
   have ow2:=Hy (World.ownsRow.lowS ow bW.size)
   have bf:=bW.trans (bq.mono bW.size)
   clear ow
   go_wp2
   go_ret
   exact⟨⟨_,rfl,ow2.out⟩,bf⟩
theorem QK (a:Act) (w':World) (d tp pos af):(execOp a.eval ⟨d,.build 77 #[],tp,pos,af,none⟩).run prog w'= .ok (.value (.agg (eT gY).toArray)) w':=by
 kernel_rfl
theorem Xm96 {p q:Prop} (k:q) (h:Hid q→p:=by
 intro hk
 refine ZR ?_
 refine ZM ?_
 refine ZM ?_
 refine ZP (c:=.pointer (some ⟨b,off+j*66,none⟩)) (fun w _=>by have:=m0;have:=m1;go_simp;first|done|rfl) ?_
 refine ZQ ?_
 refine ZP (c:=.agg (C.id.map bv).toArray) (fun w hw=>bJ _ _ rfl b (off+j*66) rfl (C.id.map bv) _ (ri.out _ hw.drew) SS rfl (by rw[k1.out];kernel_rfl)) ?_
 refine ZP (c:=.agg (x.map bv).toArray) (fun w hw=>aE (aX.b hw.drew) _ _ rfl rfl _ 32 x32.out SS rfl KR) ?_
 exact hk.out):p:=h (Hy k)
theorem Pn (A:Option Addr) (n c most:Nat) (ds:List Nd) (hn:ds.length=n) (ok:nH ds) (hs:n≤1048576) (tip:Int) (As At An:Option Addr) (ns cs nt ct nn cn:Nat) (l:List Sn) (hl:l.length=nn) (hm:nn≤100000) (x:List UInt8) (hx:x.length=32) (w:World) (hr:Rd w A (qF ds)) (rN:dI w An l):
  Calls prog 19 #[.agg (bS As At An ns cs nt ct nn cn).toArray,.agg #[.slice A n c,.int .i64 (most:Int)],.int .i64 tip,.agg (x.map bv).toArray] w fun e w'=>e= .returned (.tuple #[.agg (eT (iT ds tip x l).1).toArray,.bool (iT ds tip x l).2])∧Below w.heap.size w w':=by
 have hzb:=rQ
 have hbd:=QK
 obtain⟨zs,hzz⟩:=Nm (eT gY)
 have hzl:zs.length=66:=by rw[hzz];exact cH jV
 have hzo:zs.all (·.oneCell')=true:=by rw[hzz];exact List.all_eq_true.2 (jA _)
 rw[← hzz] at hzb hbd
 obtain⟨R,hR⟩:=Nm (iT ds tip x l)
 rw[← hR]
 have HA:=fun w' r r2=>Od A n c most ds hn ok hs tip As At An ns cs nt ct nn cn l hl hm w' r r2
 obtain⟨W,hW⟩:=Nm ((((w.alloc (.cells (bS As At An ns cs nt ct nn cn).toArray 26)).alloc (.cells #[.slice A n c,.int .i64 (most:Int)] 47)).alloc (.cells (x.map bv).toArray 35)).alloc (.cells zs.toArray 77))
 refine Xm80 ?_;intro H hH e bW
 have aW:Av W H 26 (bS As At An ns cs nt ct nn cn):=by rw[hW,hH];exact Av.alloc (Av.alloc (heap_alloc2_old _ _ _) _) _
 have aT:Av W (H+1) 47 [.slice A n c,.int .i64 (most:Int)]:=by rw[hW,hH];exact Av.alloc (Av.alloc (heap_alloc2_new _ _ _) _) _
 have aX:Av W (H+2) 35 (x.map bv):=by
  have:=heap_alloc_new ((w.alloc (.cells (bS As At An ns cs nt ct nn cn).toArray 26)).alloc (.cells #[.slice A n c,.int .i64 (most:Int)] 47)) (.cells (x.map bv).toArray 35)
  rw[e,e] at this
  rw[hW,hH];exact Av.alloc this _
 have aR:Av W (H+3) 77 zs:=by
  have:=heap_alloc_new (((w.alloc (.cells (bS As At An ns cs nt ct nn cn).toArray 26)).alloc (.cells #[.slice A n c,.int .i64 (most:Int)] 47)).alloc (.cells (x.map bv).toArray 35)) (.cells zs.toArray 77)
  rw[e,e,e] at this
  rw[hW,hH];exact this
 have hHw:w.heap.size≤H+3:=by omega
 have x32:Hid ((x.map bv).length=32):=Hy (by rw[List.length_map];exact hx)
 have rA:=hr.b bW
 have rN':=rN.b bW
 clear e
 replace hW:=Hy hW
 replace hH:=Hy hH
 replace hl:=Hy hl
 replace hR:=Hy hR
 replace HA:=Hy HA
 replace hzl:=Hy hzl
 replace hzo:=Hy hzo
 replace hbd:=Hy hbd
 replace hzz:=Hy hzz
 go_enter func19,ntmps19
 go_upto_region 1 with fail
 rw[← hW.out,← hH.out]
 clear hzb
 go_upto_region 3 with (first
  |((with_reducible refine LH aW 3 SY ?_ ?_);rfl)
  |((with_reducible refine LH aT 2 Ta ?_ ?_);rfl)
  |(go_at_call 26;refine(HA.out W rA rN').mono ?_;rintro e w1 ⟨⟨u,rfl,o1⟩,b1⟩;obtain⟨Ao,co,rfl,hco,_⟩:=cM o1))
 have bw:=bW.trans (b1.mono bW.size)
 replace aX:=aX.b b1
 replace aR:=aR.b b1
 have rO:=fV o1
 clear b1 bW aW aT o1 rA rN'
 go_loopw [11] (fun i wr=>∃ j:Nat,j≤nn∧i= .int .i64 (j:Int)∧Below w1.heap.size w1 wr∧Hid (∀ i,i<j→ ∀ z,l[i]? =some z→lJ ds tip x z=false)) (fun i _=>nn - (intOf i).toNat)
 case atStart=>exact⟨0,by omega,rfl,Below.refl _ _,Hy (fun i hi=>by omega)⟩
 case round=>
  obtain⟨j,hj,rfl,bq,hf⟩:=hrel
  replace aX:=aX.b bq
  replace aR:=aR.b bq
  replace bw:=bw.trans (bq.mono bw.size)
  by_cases hlt:j<nn
  ·have t2:decide ((j:Int)<(nn:Int))=true:=by simp;omega
   obtain⟨s,hsj⟩:∃ s,l[j]? =some s:=⟨_,List.getElem?_eq_getElem (by rw[hl.out];exact hlt)⟩
   have sok:=rN.2 s (List.mem_of_getElem? hsj)
   obtain⟨C,hC⟩:=Nm (fF ds tip s)
   have Cok:C.ok:=by rw[hC];exact kD sok
   have hCj:(l.map (fF ds tip))[j]? =some C:=by rw[List.getElem?_map,hsj,hC];rfl
   obtain⟨b,off,rfl⟩:∃ b off,Ao=some ⟨b,off,none⟩:=rO.someA fun e=>by
    have:(yK (l.map (fF ds tip))).length=(l.map (fF ds tip)).length*66:=eW eT 66 _ fun z hz=>by
     obtain⟨y,hy,rfl⟩:=List.mem_map.1 hz
     exact cH (kD (rN.2 y hy))
    rw[e,List.length_nil,List.length_map] at this
    have:=hl.out
    omega
   have rc:∀ w',Below wr.heap.size wr w'→w'.rangeAt b (off+j*66) (eT C):=fun w' b'=>Rd.piece eT 66 (l.map (fF ds tip)) (fun z hz=>by
    obtain⟨y,hy,rfl⟩:=List.mem_map.1 hz
    exact cH (kD (rN.2 y hy))) ((rO.b bq).b b') j C hCj
   have ri:=Hy (fun w' b'=>yF (rc w' b'))
   have rd:=Hy (fun w' b'=>tP (rc w' b') (qP Cok).2)
   have k1:=Hy (show (C.id.map bv).length=32 by rw[List.length_map,Cok.1])
   have C66:=Hy (cH Cok)
   have Cone:=Hy (List.all_eq_true.2 (jA C))
   obtain⟨q,hq⟩:=Nm ((C.id==x))
   have N1:=CX C.id x Cok.1 hx
   rw[← hq] at N1
   have hwl:lJ ds tip x s=(q && decide (0<C.dep)):=by rw[lJ,hq,hC];rfl
   have m0:0≤(j:Int):=by omega
   have m1:(j:Int)<(nn:Int):=by omega
   have hnext:lJ ds tip x s=false→Hid (∀ i,i<j+1→ ∀ z,l[i]? =some z→lJ ds tip x z=false):=fun h0=>Hy (fun i hi z hz=>by
    by_cases e:i=j
    ·subst e
     rw[hsj] at hz
     rw[← Option.some.inj hz]
     exact h0
    ·exact hf.out i OM z hz)
   obtain⟨z,hz⟩:=Nm (decide (0<C.dep))
   rw[← hz] at hwl
   replace hz:Hid (decide (0<C.dep)=z):=Hy hz.symm
   replace N1:=Hy N1
   replace hq:=Hy hq
   replace hsj:=Hy hsj
   replace hC:=Hy hC
   replace hwl:=Hy hwl
   replace rc:=Hy rc
   replace hnext:=Hy hnext
   clear hCj
   have fin:q && z=true→True:=fun _=>trivial
   clear fin
   go_upto_region 5 with fail
   cases q
   ·refine Xm96 ?_
    refine jN cI.refl rfl rfl rfl rfl _ _ _ _ _ rfl pB pB (c:=.bool false) (fun w=>N1.out _ _ w) zZ ?_
    refine ZM ?_
    refine ZS ?_
    refine ZS ?_
    refine ZS ?_
    refine ZS ?_
    refine ZS ?_
    refine ZS ?_
    refine ZK ?_
    refine bO fun w2 hw2=>aF ?_
    have b2:=bq.trans (hw2.drew.mono bq.size)
    have hf2:=hnext.out (by rw[hwl.out];rfl)
    clear hw2
    go_wp2
    refine⟨⟨j+1,by omega,by go_num,b2,hf2⟩,?_⟩
    simp[intOf]
    omega
   ·have E1:True:=trivial
    clear E1
    refine Xm96 ?_
    refine jN cI.refl rfl rfl rfl rfl _ _ _ _ _ rfl pB pB (c:=.bool true) (fun w=>N1.out _ _ w) zZ ?_
    refine ZM ?_
    refine ZM ?_
    refine ZM ?_
    refine ZP (c:=.pointer (some ⟨b,off+j*66,none⟩)) (fun w _=>by have:=m0;have:=m1;go_simp;first|done|rfl) ?_
    refine ZQ ?_
    refine ZP (c:=.int .i64 (C.dep:Int)) (fun w hw=>by have:=rd.out _ hw.drew;go_simp;first|done|rfl) ?_
    refine ZP (c:=.bool z) (fun w _=>by have:=hz.out;go_simp;first|done|rfl) ?_
    refine ZK ?_
    refine bO fun w2 hw2=>aF ?_
    have b2:=bq.trans (hw2.drew.mono bq.size)
    have bw2:=bw.trans (hw2.drew.mono bw.size)
    have aR2:=aR.b hw2.drew
    have rc2:=rc.out w2 hw2.drew
    clear hw2 bq aX aR
    cases z
    ·have hf2:=hnext.out (by rw[hwl.out];rfl)
     go_wp2
     refine⟨⟨j+1,by omega,by go_num,b2,hf2⟩,?_⟩
     simp[intOf]
     omega
    ·have eR:R=(C,true):=by rw[hR.out,xL hsj.out (by rw[hwl.out];rfl) hf.out,← hC.out]
     replace eR:=Hy eR
     go_wp2_with (first
      |((with_reducible refine LM rc2 Tn ?_ ?_ (hi:=by rw[C66.out];kernel_rfl));rfl)
      |((with_reducible refine SF bw2 aR2 hHw (eT C) 66 ?_ ?_ ?_ (hn:=C66.out) (ho:=hzl.out) (h1:=Cone.out));rfl;rfl;intro w6 a6 b6 k6 z6))
     refine bodyPost_ret (v:=.tuple #[.agg (eT C).toArray,.bool true]) ((aK (C:=eT C) bM bM a6 _ Tn rfl 66 C66.out KR).trans bM) bM ?_
     exact⟨by rw[eR.out],b6⟩
  ·obtain rfl:j=nn:=by omega
   have t2:decide ((j:Int)<(j:Int))=false:=by simp
   have eR:R=(gY,false):=by rw[hR.out,Ax (by rw[hl.out];exact hf.out)]
   replace eR:=Hy eR
   go_wp2_with (first
    |((with_reducible refine cF (.agg zs.toArray) ?_ ?_);exact hbd.out _ _ _ _ _ _)
    |((with_reducible refine SF bw aR hHw zs 66 ?_ ?_ ?_ (hn:=hzl.out) (ho:=hzl.out) (h1:=hzo.out));rfl;rfl;intro w6 a6 b6 k6 z6))
   refine bodyPost_ret (v:=.tuple #[.agg zs.toArray,.bool false]) ((aK (C:=zs) bM bM a6 _ Tn rfl 66 hzl.out KR).trans bM) bM ?_
   exact⟨by rw[eR.out,hzz.out],b6⟩
open Go.RowKit
def SE (T:List (List UInt8)) (I:List UInt8) (ms:List (Nat × List UInt8)) (s:Sn):Prop:=s.blk=I∧T.contains s.id=true∧∃ m ∈ ms,m.2=s.id∧(m.1:Int)=s.pos
def yG:Option kG→List UInt8 × List (Nat × List UInt8) × Nat
 |none=>(bV,[],13)
 |some r=>(r.x,r.l,0)
theorem RV {w0 w':World} {ans:Option kG} {e:Ending} (h:mO w0 ans e w'):
  ∃ A c,e= .returned (.tuple #[.agg ((yG ans).1.map bv).toArray,.slice A (yG ans).2.1.length c,.int .i64 ((yG ans).2.2:Int)])∧Rd w' A (rX (yG ans).2.1)∧Below w0.heap.size w0 w':=by
 obtain⟨b,h⟩:=h
 cases ans with
 |none=>exact⟨none,0,h,Rd.nil _ _,b⟩
 |some r=>obtain⟨A,c,he,_,_,hr⟩:=h;exact⟨A,c,he,hr,b⟩
theorem KL (hs:List (List UInt8)) (h32:dV hs) (tot:Nat) (fl:List UInt8):(yG (kJ tot hs fl)).1.length=32∧(∀ p ∈ (yG (kJ tot hs fl)).2.1,p.2.length=32)∧(yG (kJ tot hs fl)).2.1.length≤hs.length:=by
 cases hx:kJ tot hs fl with
 |none=>exact⟨rfl,(fun p (hp:p ∈ ([]:List (Nat × List UInt8)))=>(List.not_mem_nil hp).elim),Nat.zero_le _⟩
 |some r=>
  unfold kJ at hx
  split at hx
  ·obtain⟨hx,_⟩:=Option.filter_eq_some_iff.1 hx
   obtain⟨_,_,_,p4,p5,p6,p7⟩:=kV tot fl hs h32 _ _ _ _ _ hx
   exact⟨p6,p7,by show r.l.length≤hs.length;omega⟩
  ·cases hx
theorem KZ {ds:List Nd} {T:List (List UInt8)} {N:List Sn} {h:Hd} {tot:Nat} {hs:List (List UInt8)} {fl:List UInt8} (hf:bZ ds (dS h)=none):iJ ds T N h tot hs fl=(N,0,9):=by rw[iJ,hf]
theorem La {ds:List Nd} {T:List (List UInt8)} {N:List Sn} {h:Hd} {tot:Nat} {hs:List (List UInt8)} {fl:List UInt8} {i:Nat} {R:List UInt8} {M:List (Nat × List UInt8)} {F:Nat} (hf:bZ ds (dS h)=some i) (hx:yG (kJ tot hs fl)=(R,M,F)):
  (F≠0∨R≠h.root→iJ ds T N h tot hs fl=(N,0,13))∧(F=0→R=h.root→iJ ds T N h tot hs fl=((nN T (dS h) M N).1,(nN T (dS h) M N).2,0)):=by
 rw[iJ,hf]
 cases hp:kJ tot hs fl with
 |none=>
  rw[hp] at hx
  simp only[yG,Prod.mk.injEq] at hx
  refine⟨fun _=>rfl,fun h0=>?_⟩
  omega
 |some r=>
  rw[hp] at hx
  simp only[yG,Prod.mk.injEq] at hx
  obtain⟨rfl,rfl,rfl⟩:=hx
  exact⟨fun h0=>if_neg (by rcases h0 with h0|h0;exact absurd rfl h0;exact h0),fun _ h1=>if_pos h1⟩
def Nj (w:World) (As At:Option Addr) (ns cs nt ct:Nat) (P:List Sn × Nat × Nat) (e:Ending) (w':World):Prop:=∃ A' n' c',e= .returned (.tuple #[.agg (bS As At A' ns cs nt ct n' c').toArray,.int .i64 (P.2.1:Int),.int .i64 (P.2.2:Int)])∧P.1.length=n'∧dI w' A' P.1∧Below w.heap.size w w'
theorem Px {w:World} {b o:Nat} {p:Nat × List UInt8} (r:w.rangeAt b o (uX p)):w.cell? ⟨b,o,none⟩=some (.int .i64 (p.1:Int)):=by
 have:=r 0 _ (show (uX p)[0]? =some _ from rfl)
 simpa using this
def fJ (T:List (List UInt8)) (I:List UInt8) (M:List (Nat × List UInt8)) (N:List Sn) (j:Nat):List Sn × Nat:=(M.take j).foldl (lK T I) (N,0)
theorem Lb {T:List (List UInt8)} {I:List UInt8} {M:List (Nat × List UInt8)} {N:List Sn} (hI:I.length=32) (hM:∀ p ∈ M,p.2.length=32) (hN:Aw N):∀ j,j≤M.length→Aw (fJ T I M N j).1∧(fJ T I M N j).1.length≤N.length+j∧(fJ T I M N j).2≤j
 |0,_=>⟨hN,Nat.le_refl _,Nat.le_refl _⟩
 |j+1,hj=>by
  obtain⟨a,b,c⟩:=Lb hI hM hN j OM
  have hm:=List.getElem?_eq_getElem (show j<M.length by omega)
  unfold fJ at*
  rw[pU hm,lK]
  split
  ·exact⟨a,by omega,by omega⟩
  ·refine⟨fun s hs=>?_,by simp;omega,by simp;omega⟩
   rcases List.mem_append.1 hs with hs|hs
   ·exact a s hs
   ·rw[List.mem_singleton.1 hs]
    exact⟨hM _ (List.getElem_mem _),hI⟩
theorem Is (tot:Nat) (Ah:Option Addr) (nh ch:Nat) (Af:Option Addr) (nf cf:Nat):prog.built 137 [(0,.int .u32 (tot:Int)),(1,.slice Ah nh ch),(2,.slice Af nf cf)]=some (qG tot Ah nh ch Af nf cf).toArray:=by kernel_rfl
theorem Py (As At An : Option Addr) (ns cs nt ct nn cn : Nat) (T : List (List UInt8)) (hT : T.length = nt) (hnt : nt ≤ 90000) (N : List Sn) (hN : N.length = nn) (hnn : nn ≤ 90000) (A : Option Addr) (n c most : Nat) (ds : List Nd) (hn : ds.length = n) (ok : nH ds) (hs' : n ≤ 1048576) (h : Hd) (hok : h.ok) (tot : Nat) (htot : tot < 4294967296) (hs : List (List UInt8)) (h32 : dV hs) (fl : List UInt8) (Ah : Option Addr) (nh ch : Nat) (Af : Option Addr) (nf cf : Nat) (hnh : hs.length = nh) (hnf : fl.length = nf) (hnf2 : nf ≤ 10000) (hnh2 : nh ≤ 10000) (w : World) (hr : Rd w A (qF ds)) (rT : fD w At T) (rN : dI w An N) (rh : Rd w Ah (eB hs)) (rf : Rd w Af (fl.map bv)) :
    Calls prog 17 #[.agg (bS As At An ns cs nt ct nn cn).toArray, .agg #[.slice A n c, .int .i64 (most : Int)], .agg (kL h tot Ah nh ch Af nf cf).toArray] w (Nj w As At ns cs nt ct (iJ ds T N h tot hs fl)) := by
  obtain ⟨P, hP⟩ := Nm (iJ ds T N h tot hs fl)
  obtain ⟨I, hI⟩ := Nm (dS h)
  have hI32 : I.length = 32 := by rw [hI]; exact fZ h
  have HI := QS h hok
  have HF := fun (w' : World) r => JI I hI32 A n c most ds hn ok.nds hs' w' r
  rw [← hI] at HI
  rw [← hP]
  obtain ⟨R, M, F, hxo⟩ : ∃ R M F, yG (kJ tot hs fl) = (R, M, F) := ⟨_, _, _, rfl⟩
  have HX := fun (w' : World) r1 r2 => (KY fl hs h32 tot Ah nh ch Af nf cf hnh hnf htot OM OM w' r1 r2).mono fun e w'' q => RV q
  have hb := KL hs h32 tot fl
  rw [hxo] at HX hb
  obtain ⟨R32, M32, hMl⟩ := hb
  dsimp only at HX R32 M32 hMl
  have hP0 : bZ ds I = none → P = (N, 0, 9) := fun e => by rw [hP]; exact KZ (by rw [← hI]; exact e)
  have hP1 := fun i (e : bZ ds I = some i) => La (N := N) (T := T) (hI ▸ e) hxo
  rw [← hP, ← hI] at hP1
  have hzs := AH
  obtain ⟨ys, hyy⟩ := Nm (dY ⟨List.replicate 32 0, List.replicate 32 0, 0⟩)
  have ylen := Hy (show ys.length = 65 by rw [hyy]; rfl)
  rw [← hyy] at hzs
  obtain ⟨W, hW⟩ := Nm ((((w.alloc (.cells (bS As At An ns cs nt ct nn cn).toArray 26)).alloc (.cells #[.slice A n c, .int .i64 (most : Int)] 47)).alloc (.cells (kL h tot Ah nh ch Af nf cf).toArray 39)).alloc (.cells #[.slice none 0 0, .slice none 0 0, .slice none 0 0] 26))
  obtain ⟨H, hH⟩ := Nm (w.heap.size)
  have e : ∀ (v : World) (o : Obj), (v.alloc o).heap.size = v.heap.size + 1 := fun v o => by simp
  have bw : Below w.heap.size w W := by rw [hW]; exact ((((Below.refl _ _).alloc LR _).alloc zS _).alloc (by simp; omega) _).alloc (by simp; omega) _
  have aW : Av W H 26 (bS As At An ns cs nt ct nn cn) := by rw [hW, hH]; exact Av.alloc (Av.alloc (heap_alloc2_old _ _ _) _) _
  have aT : Av W (H + 1) 47 [.slice A n c, .int .i64 (most : Int)] := by rw [hW, hH]; exact Av.alloc (Av.alloc (heap_alloc2_new _ _ _) _) _
  have aB : Av W (H + 2) 39 (kL h tot Ah nh ch Af nf cf) := by
    have := heap_alloc_new ((w.alloc (.cells (bS As At An ns cs nt ct nn cn).toArray 26)).alloc (.cells #[.slice A n c, .int .i64 (most : Int)] 47)) (.cells (kL h tot Ah nh ch Af nf cf).toArray 39)
    rw [e, e] at this
    rw [hW, hH]; exact Av.alloc this _
  have aZ : Av W (H + 3) 26 (bS none none none 0 0 0 0 0 0) := by
    have := heap_alloc_new (((w.alloc (.cells (bS As At An ns cs nt ct nn cn).toArray 26)).alloc (.cells #[.slice A n c, .int .i64 (most : Int)] 47)).alloc (.cells (kL h tot Ah nh ch Af nf cf).toArray 39)) (.cells #[.slice none 0 0, .slice none 0 0, .slice none 0 0] 26)
    rw [e, e, e] at this
    rw [hW, hH]; exact this
  have hHw : w.heap.size ≤ H + 3 := by rw [hH]; omega
  have i32 := Hy (show (I.map bv).length = 32 by rw [List.length_map]; exact hI32)
  have ione := Hy (List.all_eq_true.2 (dB I))
  have r32 := Hy (show (R.map bv).length = 32 by rw [List.length_map]; exact R32)
  have rone := Hy (List.all_eq_true.2 (dB R))
  have h68 := Hy (cJ hok)
  have q32 := Hy (show (h.root.map bv).length = 32 by rw [List.length_map]; exact hok.2.2.1)
  have z32 := Hy (show (#[.int .u8 0, .int .u8 0, .int .u8 0, .int .u8 0, .int .u8 0, .int .u8 0, .int .u8 0, .int .u8 0, .int .u8 0, .int .u8 0, .int .u8 0, .int .u8 0, .int .u8 0, .int .u8 0, .int .u8 0, .int .u8 0, .int .u8 0, .int .u8 0, .int .u8 0, .int .u8 0, .int .u8 0, .int .u8 0, .int .u8 0, .int .u8 0, .int .u8 0, .int .u8 0, .int .u8 0, .int .u8 0, .int .u8 0, .int .u8 0, .int .u8 0, .int .u8 0] : Array Value).size = 32 from rfl)
  have hbt := Hy (Is tot Ah nh ch Af nf cf)
  obtain ⟨d68, d69, d70⟩ := yB (h := h) (tot := tot) (Ah := Ah) (nh := nh) (ch := ch) (Af := Af) (nf := nf) (cf := cf) hok
  have N1 := Gf R h.root R32 hok.2.2.1
  clear e hyy
  replace hW := Hy hW
  replace hH := Hy hH
  replace hP := Hy hP
  replace hI := Hy hI
  replace HI := Hy HI
  replace HF := Hy HF
  replace HX := Hy HX
  replace hxo := Hy hxo
  replace hP0 := Hy hP0
  replace hP1 := Hy hP1
  replace d68 := Hy d68
  replace d69 := Hy d69
  replace d70 := Hy d70
  replace hT := Hy hT
  replace hN := Hy hN
  replace N1 := Hy N1
  replace M32 := Hy M32
  replace hn := Hy hn
  have rb : W.rangeAt (H + 2) 0 (fC h) := yD aB
  go_enter func17, ntmps17
  go_upto_region 1 with fail
  rw [← hW.out, ← hH.out]
  go_upto_region 2 with (first
    | ((with_reducible refine LM rb Tb ?_ ?_ (hi:=by rw [h68.out]; kernel_rfl));rfl)
    | (go_at_call 49; refine (HI.out W).mono ?_; rintro e w1 ⟨rfl, b1⟩)
    | ((with_reducible refine SN (I.map bv) 32 ?_ ?_ ?_ (hn:=i32.out) (ho:=z32.out) (h1:=ione.out));rfl;rfl;intro w2 aI b2 k2 z2;clear k2;replace z2 := Hy z2))
  replace b2 := b1.trans (b2.mono b1.size)
  replace bw := bw.trans (b2.mono bw.size)
  have sZ : Hid (H + 3 < w2.heap.size) := Hy (Nat.lt_of_lt_of_le aZ.lt b2.size)
  replace aW := aW.b b2
  replace aT := aT.b b2
  replace aB := aB.b b2
  replace aZ := aZ.b b2
  have rA := hr.b bw
  obtain ⟨gI, hgI⟩ := Nm (w1.heap.size)
  rw [← hgI] at aI ⊢
  replace hgI := Hy hgI
  clear b1 b2 rb hr
  cases hf : bZ ds I with
  | none =>
    have HY := HF.out w2 rA
    rw [qC, hf] at HY
    have hPe := Hy (hP0.out hf)
    replace HY := Hy HY
    clear hf hP0 hP1
    go_wp2_with (first
      | ((with_reducible refine LH aT 2 Ta ?_ ?_);rfl)
      | ((with_reducible refine LF aI 32 i32.out SS ?_ ?_);rfl)
      | (go_at_call 50; refine (HY.out).mono ?_; rintro e w3 ⟨rfl, b3⟩)
      | ((with_reducible refine LH (aW.b b3) 3 SY ?_ ?_);rfl)
      | ((with_reducible refine SF (bw.trans (b3.mono bw.size)) (aZ.b b3) hHw (bS As At An ns cs nt ct nn cn) 3 ?_ ?_ ?_);rfl;rfl;intro w9 a9 b9 k9 z9))
    refine bodyPost_ret ((cC (C := bS As At An ns cs nt ct nn cn) bM bM a9 _ SY rfl 3 rfl KR).trans bM) bM ?_
    exact ⟨An, nn, cn, by rw [hPe.out]; rfl, by rw [hPe.out]; exact hN.out, by rw [hPe.out]; exact rN.b b9, b9⟩
  | some i =>
    have HY := HF.out w2 rA
    rw [qC, hf] at HY
    obtain ⟨p1, p2⟩ := hP1.out i hf
    replace p1 := Hy p1
    replace p2 := Hy p2
    replace HY := Hy HY
    clear hf hP0 hP1
    go_upto_region 5 with (first
      | ((with_reducible refine LH aT 2 Ta ?_ ?_);rfl)
      | ((with_reducible refine LF aI 32 i32.out SS ?_ ?_);rfl)
      | (go_at_call 50; refine (HY.out).mono ?_; rintro e w3 ⟨rfl, b3⟩))
    replace bw := bw.trans (b3.mono bw.size)
    replace aW := aW.b b3
    replace aB := aB.b b3
    replace aZ := aZ.b b3
    replace aI := aI.b b3
    have gI3 := aI.lt
    have rh3 := rh.b bw
    have rf3 := rf.b bw
    have c68 := aB.cell 68 _ d68.out
    have c69 := aB.cell 69 _ d69.out
    have c70 := aB.cell 70 _ d70.out
    clear b3 aT rA HY
    go_upto_region 6 with (first
      | ((with_reducible refine cF (.agg (qG tot Ah nh ch Af nf cf).toArray) ?_ ?_); exact dC (cs := qG tot Ah nh ch Af nf cf) (ops := [(0, .tmp 33), (1, .tmp 35), (2, .tmp 37)]) rfl hbt.out)
      | (go_at_call 51; refine (HX.out w3 rh3 rf3).mono ?_; rintro e w4 ⟨A4, c4, rfl, r4, b4⟩)
      | ((with_reducible refine SN (R.map bv) 32 ?_ ?_ ?_ (hn:=r32.out) (ho:=z32.out) (h1:=rone.out));rfl;rfl;intro w5 aR b5 k2 z2;clear k2;replace z2 := Hy z2))
    have b45 := b4.trans (b5.mono b4.size)
    replace bw := bw.trans (b45.mono bw.size)
    replace aW := aW.b b45
    replace aB := aB.b b45
    replace aZ := aZ.b b45
    have aI5 := aI.b b45
    have r5 := r4.b b5
    have sZ5 : Hid (H + 3 < w5.heap.size) := Hy aZ.lt
    clear c68 c69 c70 b4 b5 b45 r4 rh3 rf3 aI
    have rr := yE hok aB
    obtain ⟨Ml, hMl0⟩ := Nm (M.length)
    rw [← hMl0] at hMl
    rw [← hMl0]
    replace hMl0 := Hy hMl0
    have hc3 : F ≠ 0 ∨ (F = 0 ∧ R ≠ h.root) ∨ (F = 0 ∧ R = h.root) := by
      by_cases h0 : F = 0
      · by_cases h1 : R = h.root
        · exact .inr (.inr ⟨h0, h1⟩)
        · exact .inr (.inl ⟨h0, h1⟩)
      · exact .inl h0
    rcases hc3 with hF | ⟨rfl, hR⟩ | ⟨rfl, hR⟩
    rotate_left 2
    · have NN := N1.out
      rw [show (R == h.root) = true by simp [hR], Bool.not_true] at NN
      have hPe := Hy (p2.out rfl hR)
      replace NN := Hy NN
      clear hR p1 p2
      have c2 := aW.cell 2 (.slice An nn cn) rfl
      go_upto_region 8 with (first
        | ((with_reducible refine LG aR 32 SS ?_ ?_ ?_ (hn:=r32.out));rfl;rfl)
        | ((with_reducible refine fQ 35 (h.root.map bv) rr ?_ ?_ _ SS ?_ ?_ ?_); rfl; rfl; rfl; (rw [q32.out]; kernel_rfl))
        | ((with_reducible refine dF (op := .neq) (ty := 35) ?_ ?_ ?_ (NN.out _ _ w5) ?_); rfl; rfl; rfl))
      have hmade : (w5.alloc (.cells #[] 111)).ownsRow w5.heap.size 111 65 (.slice (some ⟨w5.heap.size, 0, none⟩) 0 0) 0 [] := World.ownsRow_made w5 #[] 0 LR (by simp [maxLen]) rfl
      have bm : Below w5.heap.size w5 (w5.alloc (.cells #[] 111)) := (Below.refl _ _).alloc LR _
      have rm := ((rN.b bw).b bm).1
      have lN : Hid ((uJ N).length = nn * 65) := Hy (by rw [sU rN.2, hN.out])
      clear c2
      have c2 := (aW.b bm).cell 2 (.slice An nn cn) rfl
      go_upto_region 9 with (at_builtin; refine bT Tt uE uF DC hmade zS (uJ N) nn cn rm lN.out (Ge N) OM OM rfl (.tmp 53) (.tmp 55) rfl rfl rfl ?_; intro v6 w6 o6 gr6 _)
      have b6 := fK bm hmade gr6 zS
      rw [Nat.zero_add, List.nil_append] at o6
      have o6' : w6.ownsRow w5.heap.size 111 65 v6 (fJ T I M N 0).1.length (uJ (fJ T I M N 0).1) := by rw [show (fJ T I M N 0).1 = N from rfl, hN.out]; exact o6
      clear c2 rm lN hmade bm gr6 o6 aR rr
      go_upto_region 11 with fail
      go_loopw [15, 16, 17] (fun lv kv iv wr => ∃ j : Nat, j ≤ Ml ∧ iv = .int .i64 (j : Int) ∧ kv = .int .i64 ((fJ T I M N j).2 : Int) ∧ wr.ownsRow w5.heap.size 111 65 lv (fJ T I M N j).1.length (uJ (fJ T I M N j).1) ∧ Below w5.heap.size w5 wr) (fun _ _ iv _ => Ml - (intOf iv).toNat)
      case atStart => exact ⟨0, by omega, rfl, rfl, o6', b6⟩
      case round =>
        clear o6' b6
        obtain ⟨j, hj, rfl, rfl, ow, bq⟩ := hrel
        obtain ⟨okL, hLl, hkl⟩ := Lb (T := T) (I := I) (M := M) (N := N) hI32 M32.out rN.2 j (by rw [← hMl0.out]; exact hj)
        rw [hN.out] at hLl
        by_cases hlt : j < Ml
        · have t1 : decide ((j : Int) < (Ml : Int)) = true := by simp; omega
          obtain ⟨p, hp⟩ : ∃ p, M[j]? = some p := ⟨_, List.getElem?_eq_getElem (by rw [← hMl0.out]; exact hlt)⟩
          have hst := pU (T := T) (I := I) (N := N) hp
          rw [show (M.take (j + 1)).foldl (lK T I) (N, 0) = fJ T I M N (j + 1) from rfl, show (M.take j).foldl (lK T I) (N, 0) = fJ T I M N j from rfl, lK] at hst
          have pl := M32.out p (List.mem_of_getElem? hp)
          obtain ⟨s, hsd⟩ : ∃ s : Sn, s = ⟨p.2, I, (p.1 : Int)⟩ := ⟨_, rfl⟩
          rw [← hsd] at hst
          have sok : s.ok := by rw [hsd]; exact ⟨pl, hI32⟩
          have hbs := Dx p.2 I (p.1 : Int) pl hI32
          rw [← hsd] at hbs
          have hid : s.id = p.2 := by rw [hsd]
          obtain ⟨L, hL⟩ := Nm ((fJ T I M N j).1)
          obtain ⟨k, hk⟩ := Nm ((fJ T I M N j).2)
          rw [← hL] at hst okL hLl ow
          rw [← hk] at hst hkl ⊢
          obtain ⟨nl, hnl⟩ := Nm (L.length)
          rw [← hnl] at hst hLl ow
          obtain ⟨x1, hx1⟩ := Nm (T.contains p.2)
          obtain ⟨x2, hx2⟩ := Nm (L.contains s)
          rw [← hx1, ← hx2] at hst
          have HH := fun w' r => Qt T p.2 pl At nt ct w' r hT.out OM
          rw [← hx1] at HH
          obtain ⟨Al, cl, rfl, eB, _⟩ := cM ow
          have HS := fun w' r => Qu L s sok Al nl cl w' r hnl.symm OM
          rw [← hx2] at HS
          have s65 := Hy (dD sok)
          have sone := Hy (List.all_eq_true.2 (kC s))
          have p32 := Hy (show (p.2.map bv).length = 32 by rw [List.length_map]; exact pl)
          have rM := r5.b bq
          obtain ⟨b, off, rfl⟩ : ∃ b off, A4 = some ⟨b, off, none⟩ := r5.someA fun e => by
            have := Gq M32.out
            rw [e, List.length_nil, ← hMl0.out] at this
            omega
          have pc : ∀ w', Below wr.heap.size wr w' → w'.rangeAt b (off + j * 33) (uX p) := fun w' b' => Rd.piece uX 33 M (fun e he => rL (M32.out e he)) (rM.b b') j p hp
          have rp := Hy (fun w' b' => KD (pc w' b'))
          have rq := Hy (fun w' b' => Px (pc w' b'))
          have m0 : (0 : Int) ≤ (j : Int) := by omega
          have m1 : (j : Int) < (Ml : Int) := by omega
          have hbt := Hy hbs
          have aWq := aW.b bq
          have aI := aI5.b bq
          have rT6 := (rT.b bw).b bq
          replace hst := Hy hst
          replace hsd := Hy hsd
          replace hid := Hy hid
          replace hL := Hy hL
          replace hk := Hy hk
          replace hnl := Hy hnl
          replace hx1 := Hy hx1
          replace hx2 := Hy hx2
          replace HH := Hy HH
          replace HS := Hy HS
          replace hp := Hy hp
          clear pc hbs rM
          go_upto_region 13 with fail
          refine dG [⟨12, 18, 13, 111, ys, dY s⟩] [] KR KR KR KR KR (by intro e he; cases he) zS (by intro e he; cases he) ?_
          refine mT rfl rfl rfl rfl _ (.inl rfl) (by conv => lhs; whnf) (by simp only [Zs]; rfl) ?_
          refine mT rfl rfl rfl rfl _ (.inl rfl) (by conv => lhs; whnf) (by simp only [Zs]; rfl) ?_
          refine dK rfl rfl rfl rfl (c := .pointer (some ⟨b, off + j * 33, none⟩)) (fun w _ => by have := m0; have := m1; go_simp; first | done | rfl) (by simp only [Zs]; rfl) ?_
          refine dK rfl rfl rfl rfl (c := .pointer (some ⟨b, off + j * 33 + 1, none⟩)) (fun w _ => by go_simp; first | done | rfl) (by simp only [Zs]; rfl) ?_
          refine dK rfl rfl rfl rfl (c := .agg (p.2.map bv).toArray) (fun w hw => bJ _ _ rfl b (off + j * 33 + 1) rfl (p.2.map bv) _ (rp.out _ hw.nil) SS rfl (by rw [p32.out]; kernel_rfl)) (by simp only [Zs]; rfl) ?_
          refine dK rfl rfl rfl rfl (c := .agg (I.map bv).toArray) (fun w hw => aE (aI.b hw.nil) _ _ rfl rfl _ 32 i32.out SS rfl KR) (by simp only [Zs]; rfl) ?_
          refine mT rfl rfl rfl rfl _ (.inl rfl) (by conv => lhs; whnf) (by simp only [Zs]; rfl) ?_
          refine mT rfl rfl rfl rfl _ (.inl rfl) (by conv => lhs; whnf) (by simp only [Zs]; rfl) ?_
          refine dK rfl rfl rfl rfl (c := .pointer (some ⟨b, off + j * 33, none⟩)) (fun w _ => by have := m0; have := m1; go_simp; first | done | rfl) (by simp only [Zs]; rfl) ?_
          refine dK rfl rfl rfl rfl (c := .pointer (some ⟨b, off + j * 33, none⟩)) (fun w _ => by go_simp; first | done | rfl) (by simp only [Zs]; rfl) ?_
          refine dK rfl rfl rfl rfl (c := .int .i64 (p.1 : Int)) (fun w hw => by have := rq.out _ hw.nil; go_simp; first | done | rfl) (by simp only [Zs]; rfl) ?_
          refine dK rfl rfl rfl rfl (c := .agg (dY s).toArray) (fun w hw => dC (cs := dY s) (ops := [(0, .tmp 67), (1, .tmp 68), (2, .tmp 73)]) rfl hbt.out) (by simp only [Zs]; rfl) ?_
          refine mU rfl rfl (fun ρ w => by unfold execOp; go_simp) ?_
          refine mV rfl rfl (fun w hw => aC rfl rfl fun v _ => aF fun b hb h0 => ?_) ?_
          · simp at hb
            subst hb
            exact iY h0 (ylen.out.trans s65.out.symm) _ _ _ rfl rfl rfl 65 s65.out KR sone.out
          refine wM fun w7 hw7 => aC rfl rfl fun v9 _ => aF fun hJ _ => ?_
          obtain ⟨g, hb, hB, aS⟩ := hJ.at_ ⟨12, 18, 13, 111, ys, dY s⟩ (List.mem_cons_self ..) rfl
          simp at hb
          subst hb
          replace aS : Av w7 g 111 (dY s) := aS
          have b7 := hw7.nil
          have bq7 := bq.trans (b7.mono bq.size)
          have aW7 := aWq.b b7
          have rT7 := rT6.b b7
          have ow7 := aJ ow b7
          clear hw7 hJ b7 aWq aI rT6 ow bq rp rq
          simp only [List.set_cons_succ, List.set_cons_zero]
          have c1 := aW7.cell 1 (.slice At nt ct) rfl
          have rsi : w7.rangeAt g 0 (p.2.map bv) := by have := nE aS.range0; rwa [hid.out] at this
          have hyes : x1 = true → x2 = false → nl < 4096 → fJ T I M N (j + 1) = (L ++ [s], k + 1) := fun a b c => by rw [hst.out, a, b, if_neg (by simp; omega)]
          have hno : (x1 = false ∨ x2 = true ∨ 4096 ≤ nl) → (fJ T I M N (j + 1)).1 = L ∧ (fJ T I M N (j + 1)).2 = k := fun a => by
            rw [hst.out, if_pos (by rcases a with a | a | a <;> simp [a]), ← hL.out, ← hk.out]
            exact ⟨rfl, rfl⟩
          replace hyes := Hy hyes
          replace hno := Hy hno
          have h4 : x1 = false ∨ (x1 = true ∧ x2 = true) ∨ (x1 = true ∧ x2 = false ∧ 4096 ≤ nl) ∨ (x1 = true ∧ x2 = false ∧ nl < 4096) := by
            cases x1
            · exact .inl rfl
            · cases x2
              · rcases Nat.lt_or_ge nl 4096 with h | h
                · exact .inr (.inr (.inr ⟨rfl, rfl, h⟩))
                · exact .inr (.inr (.inl ⟨rfl, rfl, h⟩))
              · exact .inr (.inl ⟨rfl, rfl⟩)
          clear hst hx1 hx2
          rcases h4 with rfl | ⟨rfl, rfl⟩ | ⟨rfl, rfl, hf⟩ | ⟨rfl, rfl, hf⟩
          rotate_left 3
          · have tf : decide ((nl : Int) < 4096) = true := decide_eq_true OM
            have tf2 : decide (nl < 4096) = true := decide_eq_true hf
            have hy := Hy (hyes.out rfl rfl hf)
            go_upto_region 15 with (first
              | ((with_reducible refine LM rsi SS ?_ ?_ (hi:=by rw [p32.out]; kernel_rfl));rfl)
              | (go_at_call 43; refine (HH.out w7 rT7).mono ?_; rintro e w8 ⟨rfl, b8⟩)
              | ((with_reducible refine LG (aS.b b8) 65 Tf ?_ ?_ ?_ (hn:=s65.out));rfl;rfl)
              | (go_at_call 52; refine (HS.out w8 ⟨fV (aJ ow7 b8), okL⟩).mono ?_; rintro e wA ⟨rfl, bA⟩))
            have b8A := b8.trans (bA.mono b8.size)
            have aSA := aS.b b8A
            have owA := aJ ow7 b8A
            have bqA := bq7.trans (b8A.mono bq7.size)
            have sA := bqA.size
            clear c1 rsi b8 bA b8A aS ow7 bq7 aW7 rT7
            go_upto_region 16 with (first
              | ((with_reducible refine LF aSA 65 s65.out Tf ?_ ?_);rfl)
              | ((with_reducible refine dQ Tt uE uF DC DC (dY s) s65.out rfl ?_))
              | (at_builtin; refine bT Tt uE uF DC (aJ owA ((Below.refl wA.heap.size wA).alloc LR _)) (by simp; omega) (dY s) 1 1 (Av.rd (t := 111) (heap_alloc_new _ _)) (by rw [s65.out]) (kC s) OM OM rfl (.tmp 91) (.tmp 93) rfl rfl rfl ?_; intro vB wB oB grB _))
            have bqB := fK (bqA.alloc bqA.size (.cells (dY s).toArray 111)) (aJ owA ((Below.refl wA.heap.size wA).alloc LR _)) grB (by simp; omega)
            have oB' : Hid (wB.ownsRow w5.heap.size 111 65 vB (fJ T I M N (j + 1)).1.length (uJ (fJ T I M N (j + 1)).1)) := Hy (by
              rw [hy.out]
              simp only [List.length_append, List.length_singleton, ← hnl.out]
              rw [show uJ (L ++ [s]) = uJ L ++ dY s by simp [uJ]]
              exact oB)
            have k0 : IntKind.i64.wrap ((k : Int) + 1) = ((k + 1 : Nat) : Int) := by rw [IntKind.wrap_i64]; omega
            clear owA grB oB bqA
            go_wp2
            refine ⟨⟨j + 1, by omega, by go_num, by rw [hy.out]; rfl, oB'.out, bqB⟩, ?_⟩
            simp [intOf]
            omega
          all_goals
            first
              | (have tf : decide ((nl : Int) < 4096) = false := by simp; omega
                 have tf2 : decide (nl < 4096) = false := by simp; omega
                 have hn' := Hy (hno.out (.inr (.inr hf))))
              | have hn' := Hy (hno.out (.inr (.inl rfl)))
              | have hn' := Hy (hno.out (.inl rfl))
            go_wp2_with (first
              | ((with_reducible refine LM rsi SS ?_ ?_ (hi:=by rw [p32.out]; kernel_rfl));rfl)
              | (go_at_call 43; refine (HH.out w7 rT7).mono ?_; rintro e w8 ⟨rfl, b8⟩)
              | ((with_reducible refine LG (aS.b b8) 65 Tf ?_ ?_ ?_ (hn:=s65.out));rfl;rfl)
              | (go_at_call 52; refine (HS.out w8 ⟨fV (aJ ow7 b8), okL⟩).mono ?_; rintro e wA ⟨rfl, bA⟩))
            first
              | (refine ⟨⟨j + 1, by omega, by go_num, by rw [hn'.out.2], by rw [hn'.out.1, ← hnl.out]; exact aJ ow7 (b8.trans (bA.mono b8.size)), bq7.trans ((b8.trans (bA.mono b8.size)).mono bq7.size)⟩, ?_⟩
                 simp [intOf]
                 omega)
              | (refine ⟨⟨j + 1, by omega, by go_num, by rw [hn'.out.2], by rw [hn'.out.1, ← hnl.out]; exact aJ ow7 b8, bq7.trans (b8.mono bq7.size)⟩, ?_⟩
                 simp [intOf]
                 omega)
        · obtain rfl : j = Ml := by omega
          have t1 : decide ((j : Int) < (j : Int)) = false := by simp
          have eP : P = ((fJ T I M N j).1, (fJ T I M N j).2, 0) := by
            rw [hPe.out, fJ, List.take_of_length_le (by rw [← hMl0.out]; exact Nat.le_refl _)]
            rfl
          obtain ⟨L, hL⟩ := Nm ((fJ T I M N j).1)
          obtain ⟨k, hk⟩ := Nm ((fJ T I M N j).2)
          obtain ⟨nl, hnl⟩ := Nm (L.length)
          rw [← hL] at ow okL eP
          rw [← hk] at eP ⊢
          rw [← hnl] at ow
          replace eP := Hy eP
          replace hL := Hy hL
          replace hk := Hy hk
          replace hnl := Hy hnl
          obtain ⟨Al, cl, rfl, eB, _⟩ := cM ow
          have aWq := aW.b bq
          have f0 := aWq.cell 0 (.slice As ns cs) rfl
          have f1 := aWq.cell 1 (.slice At nt ct) rfl
          have aZq := aZ.b bq
          have bwq := bw.trans (bq.mono bw.size)
          have ol := Hy (World.ownsRow.lt ow)
          clear aWq bq hLl hkl
          go_wp2_with ((with_reducible refine SF bwq aZq hHw (bS As At Al ns cs nt ct nl cl) 3 ?_ ?_ ?_);rfl;rfl;intro w9 a9 b9 k9 z9)
          refine bodyPost_ret ((cC (C := bS As At Al ns cs nt ct nl cl) bM bM a9 _ SY rfl 3 rfl KR).trans bM) bM ?_
          have fr9 : Fr (fun i => i = H + 3) wr w9 := ⟨b9.os.trans bwq.os.symm, b9.tape.trans bwq.tape.symm, b9.output.trans bwq.output.symm, by rw [z9]; exact Nat.le_refl _, fun i _ hi => k9 i hi⟩
          have o9 := bU ow fr9 (fun i hi e => by have := (ol.out i hi).1; have := sZ5.out; omega)
          exact ⟨Al, nl, cl, by rw [eP.out]; rfl, by rw [eP.out]; exact hnl.out.symm, by rw [eP.out]; exact ⟨fV o9, okL⟩, b9⟩
    all_goals
      first
        | (have tF : ((F : Int) != 0) = true := by simp; omega
           have hPe := Hy (p1.out (.inl hF))
           have NN := N1
           clear hF)
        | (have NN := N1.out
           rw [show (R == h.root) = false by simp [hR], Bool.not_false] at NN
           have hPe := Hy (p1.out (.inr hR))
           replace NN := Hy NN
           clear hR)
      go_wp2_with (first
        | ((with_reducible refine LG aR 32 SS ?_ ?_ ?_ (hn:=r32.out));rfl;rfl)
        | ((with_reducible refine fQ 35 (h.root.map bv) rr ?_ ?_ _ SS ?_ ?_ ?_); rfl; rfl; rfl; (rw [q32.out]; kernel_rfl))
        | ((with_reducible refine dF (op := .neq) (ty := 35) ?_ ?_ ?_ (NN.out _ _ w5) ?_); rfl; rfl; rfl)
        | ((with_reducible refine LH aW 3 SY ?_ ?_);rfl)
        | ((with_reducible refine SF bw aZ hHw (bS As At An ns cs nt ct nn cn) 3 ?_ ?_ ?_);rfl;rfl;intro w9 a9 b9 k9 z9))
      refine bodyPost_ret ((cC (C := bS As At An ns cs nt ct nn cn) bM bM a9 _ SY rfl 3 rfl KR).trans bM) bM ?_
      exact ⟨An, nn, cn, by rw [hPe.out]; rfl, by rw [hPe.out]; exact hN.out, by rw [hPe.out]; exact rN.b b9, b9⟩
end Go.Proofs.YtobjgebojhjhnaaGreatDoor
