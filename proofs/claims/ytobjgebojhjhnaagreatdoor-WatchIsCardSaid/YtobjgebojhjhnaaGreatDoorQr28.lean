import Derived.Test.YtobjgebojhjhnaaGreatDoorQr27
namespace Go.Proofs.YtobjgebojhjhnaaGreatDoor
set_option maxRecDepth 100000
set_option maxHeartbeats 16000000
open Go.RowKit Tryz
theorem AH:zeroCells111=(dY ⟨List.replicate 32 0,List.replicate 32 0,0⟩).toArray:=by kernel_rfl
theorem uE:(prog.info? 111).map (fun i=>(i.size,i.bytes))=some (65,72):=by kernel_rfl
theorem uF:(prog.info? 111).map (fun i=>(i.zero.map (·.cells.size)))=some (some 65):=by kernel_rfl
theorem Fc:(prog.info? 49).map (·.size)=some 1:=by kernel_rfl
theorem BV:(prog.info? 24).map (·.size)=some 1:=by kernel_rfl
theorem KF (As At:Option Addr) (ns cs nt ct:Nat):prog.built 51 [(0,.slice As ns cs),(1,.slice At nt ct)]=some (bS As At none ns cs nt ct 0 0).toArray:=by kernel_rfl
theorem Ih:(match prog.underlying 112 with|some (.struct fs)=>fs.toList.mapM (fun f=>(prog.info? f.type).map fun i=>(f.offset,i.size))|_=>none)=some [(0,32),(32,32),(64,1)]:=by kernel_rfl
theorem MU:(prog.info? 112).map (·.zero)=some (some (.agg (dY ⟨List.replicate 32 0,List.replicate 32 0,0⟩).toArray)):=by kernel_rfl
theorem KG (x y:List UInt8) (p:Int) (hx:x.length=32) (hy:y.length=32):prog.built 112 [(0,.agg (cK x)),(1,.agg (cK y)),(2,.int .i64 p)]=some (dY ⟨x,y,p⟩).toArray:=by
 have hp:=Ih
 rw[Td] at hp
 rw[fL Td MU hp]
 exact Xc17
theorem KH (As At:Option Addr) (ns cs nt ct:Nat):prog.built 26 [(0,.slice As ns cs),(1,.slice At nt ct)]=some (bS As At none ns cs nt ct 0 0).toArray:=by kernel_rfl
theorem Ii:(match prog.underlying 111 with|some (.struct fs)=>fs.toList.mapM (fun f=>(prog.info? f.type).map fun i=>(f.offset,i.size))|_=>none)=some [(0,32),(32,32),(64,1)]:=by kernel_rfl
theorem MV:(prog.info? 111).map (·.zero)=some (some (.agg (dY ⟨List.replicate 32 0,List.replicate 32 0,0⟩).toArray)):=by kernel_rfl
theorem Dx (x y:List UInt8) (p:Int) (hx:x.length=32) (hy:y.length=32):prog.built 111 [(0,.agg (cK x)),(1,.agg (cK y)),(2,.int .i64 p)]=some (dY ⟨x,y,p⟩).toArray:=by
 have hp:=Ii
 rw[Tf] at hp
 rw[fL Tf MV hp]
 exact Xc17
theorem Xm151 {p q:Prop} (k:q) (h:Hid q→p:=by
 intro hk
 obtain⟨O,hO⟩:=Nm (bS As At none ns cs nt ct 0 0)
 have lO:O.length=3:=by rw[hO];rfl
 have oO:O.all (·.oneCell')=true:=by rw[hO];rfl
 rw[← hO] at hbt
 replace hW:=Hy hW
 replace hH:=Hy hH
 replace sz:=Hy sz
 replace hyl:=Hy hyl
 replace hN:=Hy hN
 replace hO:=Hy hO
 replace lO:=Hy lO
 replace oO:=Hy oO
 revert O hbt hW hH sz hyl hN hO lO oO;exact hk.out):p:=h (Hy k)
theorem Xm121 {p q:Prop} (k:q) (h:Hid q→p:=by
 intro hk
 have k1:=Hy (show (s.id.map bv).length=32 by rw[List.length_map,sok.1])
 have k2:=Hy (show (s.blk.map bv).length=32 by rw[List.length_map,sok.2])
 have c64:=Hy (rK sok)
 have el:Hid (uJ (N.take j)++dY s=uJ (N.take (j+1))):=Hy (by
  rw[List.take_add_one,hs]
  simp[uJ])
 have m0:0≤(j:Int):=by omega
 have m1:(j:Int)<(nn:Int):=by omega
 replace hs:=Hy hs
 replace ow:=Hy ow
 revert k1 k2 c64 el m0 m1 hs ow;exact hk.out):p:=h (Hy k)
theorem Xm86 {p q:Prop} (k:q) (h:Hid q→p:=by
 intro hk
 obtain⟨G,hG⟩:=Nm (wr.heap.size)
 rw[← hG] at a3 ⊢
 have B3:=bw.trans (b3.mono bw.size)
 have ri:w3.rangeAt G 0 (s.id.map bv):=nE a3.range0
 have rb:w3.rangeAt G 32 (s.blk.map bv):=by have:=mR sok a3.range0;rwa [Nat.zero_add] at this
 have cp:=a3.cell 64 _ c64.out
 have oH3:=oH.b b3
 have aH3:=aH.b b3
 have qH3:=qH.b b3
 have e2:=oH3.cell 2 (.slice A j c) rfl
 have ow3:=aJ ow.out b3
 have hB3:B≤w3.heap.size:=Nat.le_trans hBr b3.size
 replace hG:=Hy hG
 replace z3:=Hy z3
 replace ow3:=Hy ow3
 skip
 revert G a3 B3 ri rb cp oH3 aH3 qH3 e2 hB3 hG z3 ow3;exact hk.out):p:=h (Hy k)
theorem Xm76 {p q:Prop} (k:q) (h:Hid q→p:=by
 intro hk
 go_upto_region 1 with fail
 rw[← hW.out,← hH.out]
 go_upto_region 2 with (first
  |((with_reducible refine cF (.agg O.toArray) ?_ ?_);exact dC (cs:=O) (ops:=[(0,.tmp 7),(1,.tmp 9)]) rfl hbt.out)
  |((with_reducible refine SN O 3 ?_ ?_ ?_ (hn:=lO.out) (h1:=oO.out));rfl;rfl;intro w2 o2 b2 k2 z2;clear k2))
 rw[sz.out] at o2 ⊢
 have B2:=bW.trans (b2.mono bW.size)
 have a2:=aW.b b2
 have q2:=zW.b b2
 rw[hO.out] at o2
 have hw2:H+3≤w2.heap.size:=by have:=o2.lt;omega
 obtain⟨B,hB⟩:=Nm (w2.heap.size)
 have hBl:B≤w2.heap.size:=by rw[hB];exact Nat.le_refl _
 rw[← hB] at hw2
 replace hB:=Hy hB
 clear b2 z2
 go_wp2
 rename_i zq0 zq1 zq2
 revert zq0 w2 o2 zq1 zq2 B2 a2 q2 B hw2 hBl hB;exact hk.out):p:=h (Hy k)
theorem Xm61 {p q:Prop} (k:q) (h:Hid q→p:=by
 intro zk0
 have S5:=oH4.set 2 (.slice A4 (j+1) c4)
 have aH5:=aH4.other ⟨H+2,2,none⟩ (.slice A4 (j+1) c4) (by show H≠H+2;omega)
 have qH5:=qH4.other ⟨H+2,2,none⟩ (.slice A4 (j+1) c4) (by show H+1≠H+2;omega)
 have b5:=(B3.trans (bE.mono OM)).setCell (p:=⟨H+2,2,none⟩) (show w.heap.size≤H+2 by omega) (.slice A4 (j+1) c4)
 have own5:=bU o4 (Fr.setCell w4 ⟨H+2,2,none⟩ (.slice A4 (j+1) c4)) (fun k hk e=>by
  have:=(World.ownsRow.lt o4 k hk).1
  simp only at e
  omega)
 have hs5:B≤(w4.setCell ⟨H+2,2,none⟩ (.slice A4 (j+1) c4)).heap.size:=by
  have:=bE.size
  simp only[World.setCell,Array.size_modify] at*
  omega
 obtain⟨wX,hwX⟩:=Nm (w4.setCell ⟨H+2,2,none⟩ (.slice A4 (j+1) c4))
 rw[← hwX] at S5 aH5 qH5 b5 own5 hs5 ⊢
 rw[el.out] at own5
 revert wX hs5 own5 b5 qH5 aH5 S5 hwX;exact zk0.out):p:=h (Hy k)
theorem SD (As At An:Option Addr) (ns cs nt ct nn cn:Nat) (N:List Sn) (hN:N.length=nn) (hnn:nn≤100000) (w:World) (rN:dI w An N):
  Calls prog 10 #[.agg (bS As At An ns cs nt ct nn cn).toArray] w fun e w'=>∃ A' c',e= .returned (.agg (bS As At A' ns cs nt ct nn c').toArray)∧dI w' A' N∧Below w.heap.size w w':=by
 have hzs:=AH
 refine Xm104 ?_;try clear hzs;intro ys hzs hyl
 obtain⟨W,hW⟩:=Nm ((w.alloc (.cells (bS As At An ns cs nt ct nn cn).toArray 26)).alloc (.cells #[.slice none 0 0,.slice none 0 0,.slice none 0 0] 51))
 obtain⟨H,hH⟩:=Nm (w.heap.size)
 have aW:Av W H 26 (bS As At An ns cs nt ct nn cn):=by rw[hW,hH];exact heap_alloc2_old _ _ _
 have zW:Av W (H+1) 51 [.slice none 0 0,.slice none 0 0,.slice none 0 0]:=by rw[hW,hH];exact heap_alloc2_new _ _ _
 refine Xm82 ?_;intro bW
 have sz:W.heap.size=H+2:=by rw[hW,hH];simp
 have hHw:w.heap.size≤H:=by rw[hH];exact Nat.le_refl _
 have c0:=aW.cell 0 (.slice As ns cs) rfl
 have c1:=aW.cell 1 (.slice At nt ct) rfl
 have hbt:=Hy (KF As At ns cs nt ct)
 refine Xm151 ?_;try clear hbt hW hH sz hyl hN;intro O hbt hW hH sz hyl hN hO lO oO
 go_enter func10,ntmps10
 refine Xm76 ?_;try clear c0 c1;intro _ w2 o2 _ _ B2 a2 q2 B hw2 hBl hB
 go_loopw [4] (fun i wr=>∃ (j:Nat) (A:Option Addr) (c:Nat),j≤nn∧i= .int .i64 (j:Int)∧Below w.heap.size w wr∧B≤wr.heap.size∧Av wr H 26 (bS As At An ns cs nt ct nn cn)∧Av wr (H+1) 51 [.slice none 0 0,.slice none 0 0,.slice none 0 0]∧Av wr (H+2) 51 (bS As At A ns cs nt ct j c)∧wr.ownsRow B 112 65 (.slice A j c) j (uJ (N.take j))) (fun i _=>nn - (intOf i).toNat)
 case atStart=>exact⟨0,none,0,by omega,rfl,B2,hBl,a2,q2,o2,World.ownsRow_nil _ _ _ _⟩
 case round=>
  clear a2 q2 o2
  obtain⟨j,A,c,hj,rfl,bw,hBr,aH,qH,oH,ow⟩:=hrel
  have d2:=aH.cell 2 (.slice An nn cn) rfl
  by_cases hlt:j<nn
  ·have t2:decide ((j:Int)<(nn:Int))=true:=by simp;omega
   obtain⟨s,hs⟩:∃ s,N[j]? =some s:=⟨_,List.getElem?_eq_getElem (by rw[hN.out];exact hlt)⟩
   obtain⟨b,off,rfl⟩:=rN.adr (by rw[hN.out];omega)
   obtain⟨rs,sok⟩:=(rN.b bw).nth j s hs
   have s65:=Hy (dD sok)
   have sone:=Hy (List.all_eq_true.2 (kC s))
   have sone':=Hy (kC s)
   have s65l:=Hy (show (dY s).length=1*65 by rw[dD sok])
   have hbs:=Hy (KG s.id s.blk s.pos sok.1 sok.2)
   refine Xm121 ?_;try clear hs ow;intro k1 k2 c64 el m0 m1 hs ow
   go_upto_region 6 with (first
    |((with_reducible refine LM rs Tf ?_ ?_ (hi:=by rw[s65.out];kernel_rfl));rfl)
    |((with_reducible refine bF 111 ((Below.refl wr.heap.size wr).alloc LR _) (heap_alloc_new _ _) LR (dY s) ?_ ?_ 65 ?_ ?_ ?_ ?_ ?_);rfl;rfl;exact s65.out;kernel_rfl;(rw[List.size_toArray];exact hyl.out);exact sone.out;intro w3 a3 b3 k3 z3;clear k3))
   refine Xm86 ?_;try clear d2 ow a3 z3;intro G a3 B3 ri rb cp oH3 aH3 qH3 e2 hB3 hG z3 ow3
   go_upto_region 4 with (first
    |((with_reducible refine LM ri SS ?_ ?_ (hi:=by rw[k1.out];kernel_rfl));rfl)
    |((with_reducible refine LM rb SS ?_ ?_ (hi:=by rw[k2.out];kernel_rfl));rfl)
    |((with_reducible refine cF (.agg (dY s).toArray) ?_ ?_);exact dC (cs:=dY s) (ops:=[(0,.tmp 26),(1,.tmp 28),(2,.tmp 30)]) rfl hbs.out)
    |((with_reducible refine dQ Tw xH xI DC DC (dY s) s65.out rfl ?_))
    |(at_builtin;refine bT Tw xH xI DC (aJ ow3.out ((Below.refl w3.heap.size w3).alloc LR _)) zU (dY s) 1 1 (Av.rd (t:=112) (heap_alloc_new _ _)) s65l.out sone'.out OM OM rfl (.tmp 24) (.tmp 32) rfl rfl rfl ?_;intro v4 w4 o4 g4 _;have bE:=fK ((Below.refl B w3).alloc hB3 (.cells (dY s).toArray 112)) (aJ ow3.out ((Below.refl w3.heap.size w3).alloc LR _)) g4 zU;obtain⟨A4,c4,rfl,hc4,_⟩:=cM o4;have oH4:=oH3.same (bE.block (H+2) OM);have aH4:=aH3.same (bE.block H OM);have qH4:=qH3.same (bE.block (H+1) OM))
    |(refine iI rfl 49 _ _ rfl rfl oH4 (show 2<3 by decide) A4 (j+1) c4 rfl Fc ?_))
   refine Xm61 ?_;intro wX hs5 own5 b5 qH5 aH5 S5 hwX
   have oX:Av wX (H+2) 51 (bS As At A4 ns cs nt ct (j+1) c4):=S5
   replace hwX:=Hy hwX
   clear S5 oH4 aH4 qH4 o4 g4
   go_wp2
   refine⟨⟨j+1,A4,c4,by omega,by go_num,b5,hs5,aH5,qH5,oX,own5⟩,?_⟩
   simp[intOf]
   omega
  ·obtain rfl:j=nn:=by omega
   have t2:decide ((j:Int)<(j:Int))=false:=by simp
   have e5:N.take j=N:=List.take_of_length_le (by rw[hN.out];exact Nat.le_refl _)
   rw[e5] at ow
   have wone:=kE As At A ns cs nt ct j c
   have l3:(bS As At A ns cs nt ct j c).length=3:=rfl
   have hH1:w.heap.size≤H+1:=by omega
   replace e5:=Hy e5
   go_wp2_with (first
    |((with_reducible refine LF oH 3 l3 SZ ?_ ?_);rfl)
    |((with_reducible refine SF bw qH hH1 (bS As At A ns cs nt ct j c) 3 ?_ ?_ ?_ (hn:=l3) (h1:=wone));rfl;rfl;intro wY aY bY kY zY))
   have own6:=bU ow (S:=fun k=>k=H+1) ⟨bY.os.trans bw.os.symm,bY.tape.trans bw.tape.symm,bY.output.trans bw.output.symm,by rw[zY];exact Nat.le_refl _,fun k _ hk=>kY k hk⟩ (fun k hk e=>by
    have:=(World.ownsRow.lt ow k hk).1
    omega)
   refine bodyPost_ret (results_cell_row rfl _ _ (H+1) _ _ (0,0) _ bM aY SZ rfl (by rw[List.size_toArray,l3];kernel_rfl)) rfl ?_
   exact⟨A,c,rfl,⟨fV own6,rN.2⟩,bY⟩
theorem KI (As At An:Option Addr) (ns cs nt ct nn cn:Nat) (N:List Sn) (hN:N.length=nn) (hnn:nn≤100000) (w:World) (rN:dI w An N):
  Calls prog 21 #[.agg (bS As At An ns cs nt ct nn cn).toArray] w fun e w'=>∃ A' c',e= .returned (.agg (bS As At A' ns cs nt ct nn c').toArray)∧dI w' A' N∧Below w.heap.size w w':=by
 have hzs:=uB
 refine Xm104 ?_;try clear hzs;intro ys hzs hyl
 obtain⟨W,hW⟩:=Nm ((w.alloc (.cells (bS As At An ns cs nt ct nn cn).toArray 51)).alloc (.cells #[.slice none 0 0,.slice none 0 0,.slice none 0 0] 26))
 obtain⟨H,hH⟩:=Nm (w.heap.size)
 have aW:Av W H 51 (bS As At An ns cs nt ct nn cn):=by rw[hW,hH];exact heap_alloc2_old _ _ _
 have zW:Av W (H+1) 26 [.slice none 0 0,.slice none 0 0,.slice none 0 0]:=by rw[hW,hH];exact heap_alloc2_new _ _ _
 refine Xm82 ?_;intro bW
 have sz:W.heap.size=H+2:=by rw[hW,hH];simp
 have hHw:w.heap.size≤H:=by rw[hH];exact Nat.le_refl _
 have c0:=aW.cell 0 (.slice As ns cs) rfl
 have c1:=aW.cell 1 (.slice At nt ct) rfl
 have hbt:=Hy (KH As At ns cs nt ct)
 refine Xm151 ?_;try clear hbt hW hH sz hyl hN;intro O hbt hW hH sz hyl hN hO lO oO
 go_enter func21,ntmps21
 refine Xm76 ?_;try clear c0 c1;intro _ w2 o2 _ _ B2 a2 q2 B hw2 hBl hB
 go_loopw [4] (fun i wr=>∃ (j:Nat) (A:Option Addr) (c:Nat),j≤nn∧i= .int .i64 (j:Int)∧Below w.heap.size w wr∧B≤wr.heap.size∧Av wr H 51 (bS As At An ns cs nt ct nn cn)∧Av wr (H+1) 26 [.slice none 0 0,.slice none 0 0,.slice none 0 0]∧Av wr (H+2) 26 (bS As At A ns cs nt ct j c)∧wr.ownsRow B 111 65 (.slice A j c) j (uJ (N.take j))) (fun i _=>nn - (intOf i).toNat)
 case atStart=>exact⟨0,none,0,by omega,rfl,B2,hBl,a2,q2,o2,World.ownsRow_nil _ _ _ _⟩
 case round=>
  clear a2 q2 o2
  obtain⟨j,A,c,hj,rfl,bw,hBr,aH,qH,oH,ow⟩:=hrel
  have d2:=aH.cell 2 (.slice An nn cn) rfl
  by_cases hlt:j<nn
  ·have t2:decide ((j:Int)<(nn:Int))=true:=by simp;omega
   obtain⟨s,hs⟩:∃ s,N[j]? =some s:=⟨_,List.getElem?_eq_getElem (by rw[hN.out];exact hlt)⟩
   obtain⟨b,off,rfl⟩:=rN.adr (by rw[hN.out];omega)
   obtain⟨rs,sok⟩:=(rN.b bw).nth j s hs
   have s65:=Hy (dD sok)
   have sone:=Hy (List.all_eq_true.2 (kC s))
   have sone':=Hy (kC s)
   have s65l:=Hy (show (dY s).length=1*65 by rw[dD sok])
   have hbs:=Hy (Dx s.id s.blk s.pos sok.1 sok.2)
   refine Xm121 ?_;try clear hs ow;intro k1 k2 c64 el m0 m1 hs ow
   go_upto_region 6 with (first
    |((with_reducible refine LM rs Td ?_ ?_ (hi:=by rw[s65.out];kernel_rfl));rfl)
    |((with_reducible refine bF 112 ((Below.refl wr.heap.size wr).alloc LR _) (heap_alloc_new _ _) LR (dY s) ?_ ?_ 65 ?_ ?_ ?_ ?_ ?_);rfl;rfl;exact s65.out;kernel_rfl;(rw[List.size_toArray];exact hyl.out);exact sone.out;intro w3 a3 b3 k3 z3;clear k3))
   refine Xm86 ?_;try clear d2 ow a3 z3;intro G a3 B3 ri rb cp oH3 aH3 qH3 e2 hB3 hG z3 ow3
   go_upto_region 4 with (first
    |((with_reducible refine LM ri SS ?_ ?_ (hi:=by rw[k1.out];kernel_rfl));rfl)
    |((with_reducible refine LM rb SS ?_ ?_ (hi:=by rw[k2.out];kernel_rfl));rfl)
    |((with_reducible refine cF (.agg (dY s).toArray) ?_ ?_);exact dC (cs:=dY s) (ops:=[(0,.tmp 26),(1,.tmp 28),(2,.tmp 30)]) rfl hbs.out)
    |((with_reducible refine dQ Tt uE uF DC DC (dY s) s65.out rfl ?_))
    |(at_builtin;refine bT Tt uE uF DC (aJ ow3.out ((Below.refl w3.heap.size w3).alloc LR _)) zU (dY s) 1 1 (Av.rd (t:=111) (heap_alloc_new _ _)) s65l.out sone'.out OM OM rfl (.tmp 24) (.tmp 32) rfl rfl rfl ?_;intro v4 w4 o4 g4 _;have bE:=fK ((Below.refl B w3).alloc hB3 (.cells (dY s).toArray 111)) (aJ ow3.out ((Below.refl w3.heap.size w3).alloc LR _)) g4 zU;obtain⟨A4,c4,rfl,hc4,_⟩:=cM o4;have oH4:=oH3.same (bE.block (H+2) OM);have aH4:=aH3.same (bE.block H OM);have qH4:=qH3.same (bE.block (H+1) OM))
    |(refine iI rfl 24 _ _ rfl rfl oH4 (show 2<3 by decide) A4 (j+1) c4 rfl BV ?_))
   refine Xm61 ?_;intro wX hs5 own5 b5 qH5 aH5 S5 hwX
   have oX:Av wX (H+2) 26 (bS As At A4 ns cs nt ct (j+1) c4):=S5
   replace hwX:=Hy hwX
   clear S5 oH4 aH4 qH4 o4 g4
   go_wp2
   refine⟨⟨j+1,A4,c4,by omega,by go_num,b5,hs5,aH5,qH5,oX,own5⟩,?_⟩
   simp[intOf]
   omega
  ·obtain rfl:j=nn:=by omega
   have t2:decide ((j:Int)<(j:Int))=false:=by simp
   have e5:N.take j=N:=List.take_of_length_le (by rw[hN.out];exact Nat.le_refl _)
   rw[e5] at ow
   have wone:=kE As At A ns cs nt ct j c
   have l3:(bS As At A ns cs nt ct j c).length=3:=rfl
   have hH1:w.heap.size≤H+1:=by omega
   replace e5:=Hy e5
   go_wp2_with (first
    |((with_reducible refine LF oH 3 l3 SY ?_ ?_);rfl)
    |((with_reducible refine SF bw qH hH1 (bS As At A ns cs nt ct j c) 3 ?_ ?_ ?_ (hn:=l3) (h1:=wone));rfl;rfl;intro wY aY bY kY zY))
   have own6:=bU ow (S:=fun k=>k=H+1) ⟨bY.os.trans bw.os.symm,bY.tape.trans bw.tape.symm,bY.output.trans bw.output.symm,by rw[zY];exact Nat.le_refl _,fun k _ hk=>kY k hk⟩ (fun k hk e=>by
    have:=(World.ownsRow.lt ow k hk).1
    omega)
   refine bodyPost_ret (results_cell_row rfl _ _ (H+1) _ _ (0,0) _ bM aY SY rfl (by rw[List.size_toArray,l3];kernel_rfl)) rfl ?_
   exact⟨A,c,rfl,⟨fV own6,rN.2⟩,bY⟩
theorem Ij:(match prog.underlying 69 with|some (.struct fs)=>fs.toList.mapM (fun f=>(prog.info? f.type).map fun i=>(f.offset,i.size))|_=>none)=some [(0,68),(68,1),(69,1),(70,1)]:=by kernel_rfl
theorem MW:(prog.info? 69).map (·.zero)=some (some (.agg (kL dO.head 0 none 0 0 none 0 0).toArray)):=by kernel_rfl
theorem KJ:zeroCells69=(kL dO.head 0 none 0 0 none 0 0).toArray:=by kernel_rfl
theorem BW:(fC dO.head).length=68:=rfl
theorem Dy (h:Hd) (k:h.ok) (tot:Nat) (Ah:Option Addr) (nh ch:Nat) (Af:Option Addr) (nf cf:Nat):prog.built 69 [(0,.agg (fC h).toArray),(1,.int .u32 (tot:Int)),(2,.slice Ah nh ch),(3,.slice Af nf cf)]=some (kL h tot Ah nh ch Af nf cf).toArray:=by
 have hp:=Ij
 rw[underlying69] at hp
 rw[fL underlying69 MW hp]
 have h68:=cJ k
 have z68:=BW
 show Instr.fill _ (([]++(fC dO.head++ [Value.int .u32 0,Value.slice none 0 0,Value.slice none 0 0])):List Value).toArray _=some (fC h++ [Value.int .u32 (tot:Int),Value.slice Ah nh ch,Value.slice Af nf cf]).toArray
 generalize fC dO.head=Z at*
 refine Eq.trans (dA [] Z (fC h) _ (off:=0) (size:=68) rfl rfl h68 rfl z68) ?_
 rw[show ([]++(fC h++ [Value.int .u32 0,Value.slice none 0 0,Value.slice none 0 0]):List Value)=fC h++([Value.int .u32 0]++ [Value.slice none 0 0,Value.slice none 0 0]) from rfl]
 refine Eq.trans (dA (fC h) [Value.int .u32 0] [Value.int .u32 (tot:Int)] _ (off:=68) (size:=1) rfl rfl rfl h68 rfl) ?_
 rw[show (fC h++([Value.int .u32 (tot:Int)]++ [Value.slice none 0 0,Value.slice none 0 0]):List Value)=(fC h++ [Value.int .u32 (tot:Int)])++([Value.slice none 0 0]++ [Value.slice none 0 0]) by simp]
 refine Eq.trans (dA (fC h++ [Value.int .u32 (tot:Int)]) [Value.slice none 0 0] [Value.slice Ah nh ch] _ (off:=69) (size:=1) rfl rfl rfl (by simp[h68]) rfl) ?_
 rw[show ((fC h++ [Value.int .u32 (tot:Int)])++([Value.slice Ah nh ch]++ [Value.slice none 0 0]):List Value)=(fC h++ [Value.int .u32 (tot:Int),Value.slice Ah nh ch])++([Value.slice none 0 0]++ []) by simp]
 refine Eq.trans (dA (fC h++ [Value.int .u32 (tot:Int),Value.slice Ah nh ch]) [Value.slice none 0 0] [Value.slice Af nf cf] _ (off:=70) (size:=1) rfl rfl rfl (by simp[h68]) rfl) ?_
 simp[Instr.fill]
theorem Pm (h:Hd) (k:h.ok) (tot:Nat) (Ah:Option Addr) (nh ch:Nat) (Af:Option Addr) (nf cf:Nat) (w:World):
  Calls prog 16 #[.agg (kL h tot Ah nh ch Af nf cf).toArray] w fun e w'=>e= .returned (.agg (kL h tot Ah nh ch Af nf cf).toArray)∧Below w.heap.size w w':=by
 have hzb:=KJ
 obtain⟨zs,hzz⟩:=Nm (kL dO.head 0 none 0 0 none 0 0)
 have hzl:zs.length=71:=by rw[hzz];rfl
 rw[← hzz] at hzb
 clear hzz
 obtain⟨O,hO⟩:=Nm (kL h tot Ah nh ch Af nf cf)
 obtain⟨d68,d69,d70⟩:=yB (h:=h) (tot:=tot) (Ah:=Ah) (nh:=nh) (ch:=ch) (Af:=Af) (nf:=nf) (cf:=cf) k
 have lO:O.length=71:=by rw[hO];exact yC k
 have oO:O.all (·.oneCell')=true:=by rw[hO];exact List.all_eq_true.2 MP
 have hbt:=Hy (Dy h k tot Ah nh ch Af nf cf)
 obtain⟨W,hW⟩:=Nm ((w.alloc (.cells O.toArray 39)).alloc (.cells zs.toArray 69))
 obtain⟨H,hH⟩:=Nm (w.heap.size)
 have aW:Av W H 39 O:=by rw[hW,hH];exact heap_alloc2_old _ _ _
 have rW:Av W (H+1) 69 zs:=by rw[hW,hH];exact heap_alloc2_new _ _ _
 refine Xm82 ?_;intro bW
 have rhd:W.rangeAt H 0 (fC h):=yD (by rw[← hO];exact aW)
 rw[← hO] at d68 d69 d70 hbt ⊢
 have e68:=aW.cell 68 _ d68
 have e69:=aW.cell 69 _ d69
 have e70:=aW.cell 70 _ d70
 have h68:=Hy (cJ k)
 have hH1:w.heap.size≤H+1:=by omega
 replace hW:=Hy hW
 replace hH:=Hy hH
 replace hO:=Hy hO
 replace lO:=Hy lO
 replace oO:=Hy oO
 replace hzl:=Hy hzl
 clear d68 d69 d70
 go_enter func16,ntmps16
 go_upto_region 1 with fail
 rw[← hW.out,← hH.out]
 go_wp2_with (first
  |((with_reducible refine LM rhd Tb ?_ ?_ (hi:=by rw[h68.out];kernel_rfl));rfl)
  |((with_reducible refine cF (.agg O.toArray) ?_ ?_);exact dC (cs:=O) (ops:=[(0,.tmp 4),(1,.tmp 6),(2,.tmp 8),(3,.tmp 10)]) rfl hbt.out)
  |((with_reducible refine SF bW rW hH1 O 71 ?_ ?_ ?_ (hn:=lO.out) (ho:=hzl.out) (h1:=oO.out));rfl;rfl;intro wY aY bY kY zY))
 refine bodyPost_ret (results_cell_row rfl _ _ (H+1) _ _ (0,0) _ bM aY underlying69 rfl (by rw[List.size_toArray,lO.out];kernel_rfl)) rfl ⟨rfl,bY⟩
theorem Ik:(match prog.underlying 77 with|some (.struct fs)=>fs.toList.mapM (fun f=>(prog.info? f.type).map fun i=>(f.offset,i.size))|_=>none)=some [(0,32),(32,32),(64,1),(65,1)]:=by kernel_rfl
theorem MX:(prog.info? 77).map (·.zero)=some (some (.agg (eT gY).toArray)):=by kernel_rfl
theorem rQ:zeroCells77=(eT gY).toArray:=by kernel_rfl
theorem Dz (x y:List UInt8) (p q:Int) (hx:x.length=32) (hy:y.length=32):prog.built 77 [(0,.agg (cK x)),(1,.agg (cK y)),(2,.int .i64 p),(3,.int .i64 q)]=some (x.map bv++(y.map bv++ [Value.int .i64 p,Value.int .i64 q])).toArray:=by
 have hp:=Ik
 rw[Tn] at hp
 rw[fL Tn MX hp]
 have z32:((List.replicate 32 (0:UInt8)).map bv).length=32:=rfl
 show Instr.fill _ (([]++((List.replicate 32 (0:UInt8)).map bv++((List.replicate 32 (0:UInt8)).map bv++ [Value.int .i64 0,Value.int .i64 0]))):List Value).toArray _=_
 generalize (List.replicate 32 (0:UInt8)).map bv=Z at*
 refine Eq.trans (dA [] Z (x.map bv) _ (off:=0) (size:=32) rfl rfl (by simpa using hx) rfl z32) ?_
 rw[show ([]++(x.map bv++(Z++ [Value.int .i64 0,Value.int .i64 0])):List Value)=x.map bv++(Z++ [Value.int .i64 0,Value.int .i64 0]) from rfl]
 refine Eq.trans (dA (x.map bv) Z (y.map bv) _ (off:=32) (size:=32) rfl rfl (by simpa using hy) (by simpa using hx) z32) ?_
 rw[show (x.map bv++(y.map bv++ [Value.int .i64 0,Value.int .i64 0]):List Value)=(x.map bv++y.map bv)++([Value.int .i64 0]++ [Value.int .i64 0]) by simp]
 refine Eq.trans (dA (x.map bv++y.map bv) [Value.int .i64 0] [Value.int .i64 p] _ (off:=64) (size:=1) rfl rfl rfl (by simp[hx,hy]) rfl) ?_
 rw[show ((x.map bv++y.map bv)++([Value.int .i64 p]++ [Value.int .i64 0]):List Value)=(x.map bv++(y.map bv++ [Value.int .i64 p]))++([Value.int .i64 0]++ []) by simp]
 refine Eq.trans (dA (x.map bv++(y.map bv++ [Value.int .i64 p])) [Value.int .i64 0] [Value.int .i64 q] _ (off:=65) (size:=1) rfl rfl rfl (by simp[hx,hy]) rfl) ?_
 simp[Instr.fill]
theorem yF {w:World} {b o:Nat} {s:Cf} (r:w.rangeAt b o (eT s)):w.rangeAt b o (s.id.map bv):=fun j u hu=>by
 refine r j u ?_
 unfold eT
 rw[List.getElem?_append_left (List.getElem?_eq_some_iff.1 hu).1]
 exact hu
theorem Il {w:World} {b o:Nat} {s:Cf} (h:s.ok) (r:w.rangeAt b o (eT s)):w.rangeAt b (o+32) (s.blk.map bv):=fun j u hu=>by
 have hj:=(List.getElem?_eq_some_iff.1 hu).1
 have:=r (32+j) u (by
  unfold eT
  rw[List.getElem?_append_right (by simp[h.1]),List.getElem?_append_left (by simpa [h.1] using hj),← hu]
  congr 1
  simp[h.1])
 rw[show o+32+j=o+(32+j) by omega]
 exact this
theorem Oc (c:Cf) (k:c.ok) (w:World):
  Calls prog 22 #[.agg (eT c).toArray] w fun e w'=>e= .returned (.agg (eT c).toArray)∧Below w.heap.size w w':=by
 have hzb:=rQ
 obtain⟨zs,hzz⟩:=Nm (eT gY)
 have hzl:zs.length=66:=by rw[hzz];exact cH jV
 rw[← hzz] at hzb
 clear hzz
 have hbt:=Dz c.id c.blk c.pos (c.dep:Int) k.1 k.2
 rw[show c.id.map bv++(c.blk.map bv++ [Value.int .i64 c.pos,Value.int .i64 (c.dep:Int)])=eT c from rfl] at hbt
 obtain⟨d64,d65⟩:=qP k
 have lO:=cH k
 have oO:=List.all_eq_true.2 (jA c)
 obtain⟨W,hW⟩:=Nm ((w.alloc (.cells (eT c).toArray 74)).alloc (.cells zs.toArray 77))
 obtain⟨H,hH⟩:=Nm (w.heap.size)
 have aW:Av W H 74 (eT c):=by rw[hW,hH];exact heap_alloc2_old _ _ _
 have rW:Av W (H+1) 77 zs:=by rw[hW,hH];exact heap_alloc2_new _ _ _
 refine Xm82 ?_;intro bW
 have ri:W.rangeAt H 0 (c.id.map bv):=yF aW.range0
 have rb:W.rangeAt H 32 (c.blk.map bv):=by have:=Il k aW.range0;rwa [Nat.zero_add] at this
 have e64:=aW.cell 64 _ d64
 have e65:=aW.cell 65 _ d65
 have k1:=Hy (show (c.id.map bv).length=32 by rw[List.length_map,k.1])
 have k2:=Hy (show (c.blk.map bv).length=32 by rw[List.length_map,k.2])
 have hH1:w.heap.size≤H+1:=by omega
 replace hW:=Hy hW
 replace hH:=Hy hH
 replace lO:=Hy lO
 replace oO:=Hy oO
 replace hzl:=Hy hzl
 replace hbt:=Hy hbt
 clear d64 d65
 go_enter func22,ntmps22
 go_upto_region 1 with fail
 rw[← hW.out,← hH.out]
 go_wp2_with (first
  |((with_reducible refine LM ri SS ?_ ?_ (hi:=by rw[k1.out];kernel_rfl));rfl)
  |((with_reducible refine LM rb SS ?_ ?_ (hi:=by rw[k2.out];kernel_rfl));rfl)
  |((with_reducible refine cF (.agg (eT c).toArray) ?_ ?_);exact dC (cs:=eT c) (ops:=[(0,.tmp 4),(1,.tmp 6),(2,.tmp 8),(3,.tmp 10)]) rfl hbt.out)
  |((with_reducible refine SF bW rW hH1 (eT c) 66 ?_ ?_ ?_ (hn:=lO.out) (ho:=hzl.out) (h1:=oO.out));rfl;rfl;intro wY aY bY kY zY))
 refine bodyPost_ret (results_cell_row rfl _ _ (H+1) _ _ (0,0) _ bM aY Tn rfl (by rw[List.size_toArray,lO.out];kernel_rfl)) rfl ⟨rfl,bY⟩
theorem MY:wZ 60=60:=rfl
theorem Gs (l:List Hd) (A:Option Addr) (n c:Nat) (hn:l.length=n) (hn2:n≤1000) (w:World) (ht:fW w) (hr:oS w A l):
  Calls prog 7 #[.slice A n c] w fun e w'=>∃ v,e= .returned v∧mB w' v (jP 60 l)∧Below w.heap.size w w':=by
 have HN:=Hy (Ry 60 w)
 obtain⟨Bs,hBs⟩:=Nm (w.heap.size)
 have hBw:w.heap.size≤Bs:=by rw[hBs];exact Nat.le_refl _
 rw[MY,← hBs] at HN
 obtain⟨Z,hZ⟩:=Nm (jP 60 l)
 rw[← hZ]
 replace hBs:=Hy hBs
 replace hZ:=Hy hZ
 replace hn:=Hy hn
 go_enter func7,ntmps7
 go_wp2_with (go_at_call 28;refine(HN.out).mono ?_;rintro e w2 ⟨⟨R,M,rfl,T2⟩,b2⟩)
 have b02:Below w.heap.size w w2:=b2.mono hBw
 go_loopw [4] (fun iv wr=>∃ (k:Nat) (v:Value),k≤n∧iv= .int .i64 (k:Int)∧sS wr Bs R 60 v M (jP 60 (l.take k))∧Below w.heap.size w wr) (fun iv _=>n - (intOf iv).toNat)
 case atStart=>exact⟨0,_,by omega,rfl,T2,b02⟩
 case round=>
  clear T2 b02
  obtain⟨k,v,hk,rfl,T,bw⟩:=hrel
  by_cases hlt:k<n
  ·have t1:decide ((k:Int)<(n:Int))=true:=by simp;omega
   obtain⟨x,hx⟩:∃ x,l[k]? =some x:=⟨_,List.getElem?_eq_getElem (by rw[hn.out];exact hlt)⟩
   obtain⟨b,off,rfl⟩:=hr.adr (by rw[hn.out];omega)
   obtain⟨rx,xok⟩:=(hr.b bw).nth k x hx
   have hBr:Bs≤wr.heap.size:=Nat.le_trans T.hR (Nat.le_of_lt T.av.lt)
   have HA:=Hy (RB Bs R 60 v M (jP 60 (l.take k)) x xok wr (ht.b bw) T hBr)
   have hnx:=Hy (Ad 60 l k x hx)
   have x68:=Hy (cJ xok)
   have rx2:=Hy rx
   have m0:(0:Int)≤(k:Int):=by omega
   have m1:(k:Int)<(n:Int):=by omega
   replace hx:=Hy hx
   clear rx
   go_wp2_with (first
    |((with_reducible refine LM rx2.out Tb ?_ ?_ (hi:=by rw[x68.out];kernel_rfl));rfl)
    |(go_at_call 29;refine(HA.out).mono ?_;rintro e w5 ⟨rfl,⟨v5,T5⟩,b5,K5⟩))
   rw[← hnx.out] at T5
   replace T5:=Hy T5
   have b05:=Hy (bw.trans (b5.mono hBw))
   refine⟨⟨k+1,v5,by omega,by go_num,T5.out,b05.out⟩,?_⟩
   simp[intOf];omega
  ·obtain rfl:k=n:=by omega
   have t1:decide ((k:Int)<(k:Int))=false:=by simp
   have htk:l.take k=l:=List.take_of_length_le (by rw[hn.out];exact Nat.le_refl _)
   rw[htk,← hZ.out] at T
   replace htk:=Hy htk
   go_wp2
   go_ret
   exact⟨_,rfl,T.ref,bw⟩
def DD (S:List (List UInt8)) (nt nn:Nat):Bool:=(S.all fun s=>decide (s.length≤300)) && (decide (S.length≤300) && decide (nt≤60) && decide (nn≤60))
theorem oV {S:List (List UInt8)} {nt nn:Nat}:DD S nt nn=true↔(∀ s ∈ S,s.length≤300)∧S.length≤300∧nt≤60∧nn≤60:=by
 simp only[DD,Bool.and_eq_true,List.all_eq_true,decide_eq_true_eq,and_assoc]
theorem Xc119 {p:Prop} (h:p:=by
 replace hall:=Hy hall
 replace hla:=Hy hla
 go_wp2
 go_ret
 exact⟨by first|rfl|(rw[eR];rfl),bW⟩):p:=h
theorem QI (S:List (List UInt8 × Sl)) (As At An:Option Addr) (ns cs nt ct nn cn:Nat) (hS:S.length=ns) (hns:ns≤maxLen) (w:World) (rS:dU w As S):
  Calls prog 5 #[.agg (bS As At An ns cs nt ct nn cn).toArray] w fun e w'=>e= .returned (.bool (DD (S.map (·.1)) nt nn))∧Below w.heap.size w w':=by
 obtain⟨R,hR⟩:=Nm (DD (S.map (·.1)) nt nn)
 rw[← hR]
 have hns2:ns≤9223372036854775807:=Nat.le_trans hns DC
 obtain⟨W,hW⟩:=Nm (w.alloc (.cells (bS As At An ns cs nt ct nn cn).toArray 26))
 obtain⟨H,hH⟩:=Nm (w.heap.size)
 have aW:Av W H 26 (bS As At An ns cs nt ct nn cn):=by rw[hW,hH];exact heap_alloc_new _ _
 refine Xm90 ?_;intro bW
 have c0:=aW.cell 0 (.slice As ns cs) rfl
 have c1:=aW.cell 1 (.slice At nt ct) rfl
 have c2:=aW.cell 2 (.slice An nn cn) rfl
 replace hW:=Hy hW
 replace hH:=Hy hH
 replace hS:=Hy hS
 replace hR:=Hy hR
 clear hns
 go_enter func5,ntmps5
 go_upto_region 1 with fail
 rw[← hW.out,← hH.out]
 go_wp2
 go_loopw [3] (fun i wr=>∃ j:Nat,j≤ns∧i= .int .i64 (j:Int)∧wr=W∧Hid (∀ q,q<j→ ∀ e,S[q]? =some e→e.1.length≤300)) (fun i _=>ns - (intOf i).toNat)
 case atStart=>exact⟨0,by omega,rfl,rfl,Hy (fun q hq=>by omega)⟩
 case round=>
  obtain⟨j,hj,rfl,hwr,hf⟩:=hrel
  have hwr':=hwr.symm
  subst hwr'
  by_cases hlt:j<ns
  ·have t2:decide ((j:Int)<(ns:Int))=true:=by simp;omega
   obtain⟨⟨ys,ya,yc⟩,hy⟩:∃ y,S[j]? =some y:=⟨_,List.getElem?_eq_getElem (by rw[hS.out];exact hlt)⟩
   obtain⟨b,off,rfl⟩:=rS.adr (by rw[hS.out];omega)
   obtain⟨g1,g2,g3⟩:=(rS.b bW).nth j _ hy
   dsimp only at g1 g2 g3
   obtain⟨yl,hyl⟩:=Nm (ys.length)
   have g1':W.cell? ⟨b,off+j,none⟩=some (.slice ya yl yc):=by rw[hyl];exact g1
   have m0:0≤(j:Int):=by omega
   have m1:(j:Int)<(ns:Int):=by omega
   replace hyl:=Hy hyl
   clear g1 g2 g3
   by_cases hb:300<yl
   ·have t3:decide ((300:Int)<(yl:Int))=true:=by simp;omega
    have eR:R=false:=by
     rw[hR.out,Bool.eq_false_iff,ne_eq,oV]
     rintro⟨h,_⟩
     have:=h ys (List.mem_map.2 ⟨_,List.mem_of_getElem? hy,rfl⟩)
     have:=hyl.out
     omega
    replace hy:=Hy hy
    go_wp2
    go_ret
    exact⟨by first|rfl|(rw[eR];rfl),bW⟩
   ·have t3:decide ((300:Int)<(yl:Int))=false:=by simp;omega
    have hf2:Hid (∀ q,q<j+1→ ∀ e,S[q]? =some e→e.1.length≤300):=Hy (fun q hq e he=>by
     by_cases e2:q=j
     ·subst e2
      rw[hy] at he
      rw[← Option.some.inj he]
      have:=hyl.out
      show ys.length≤300
      omega
     ·exact hf.out q OM e he)
    replace hy:=Hy hy
    go_wp2
    refine⟨⟨j+1,by omega,by go_num,trivial,hf2⟩,?_⟩
    simp[intOf]
    omega
  ·obtain rfl:j=ns:=by omega
   have t2:decide ((j:Int)<(j:Int))=false:=by simp
   have hall:∀ s ∈ S.map (·.1),s.length≤300:=by
    intro s hs
    obtain⟨e,he,rfl⟩:=List.mem_map.1 hs
    obtain⟨q,hq,rfl⟩:=List.getElem_of_mem he
    exact hf.out q (by rw[← hS.out];exact hq) _ (List.getElem?_eq_getElem hq)
   have hla:(S.map (·.1)).all (fun s=>decide (s.length≤300))=true:=List.all_eq_true.2 fun s hs=>decide_eq_true (hall s hs)
   by_cases p1:j≤300
   ·by_cases p2:nt≤60
    ·by_cases p3:nn≤60
     ·have t4:decide ((j:Int)≤300)=true:=by simp;omega
      have t5:decide ((nt:Int)≤60)=true:=by simp;omega
      have t6:decide ((nn:Int)≤60)=true:=by simp;omega
      have eR:R=true:=by rw[hR.out,oV];exact⟨hall,by rw[List.length_map,hS.out];exact p1,p2,p3⟩
      exact Xc119
     ·have t4:decide ((j:Int)≤300)=true:=by simp;omega
      have t5:decide ((nt:Int)≤60)=true:=by simp;omega
      have t6:decide ((nn:Int)≤60)=false:=by simp;omega
      have eR:R=false:=by rw[hR.out,Bool.eq_false_iff,ne_eq,oV];rintro⟨_,_,_,h⟩;omega
      exact Xc119
    ·have t4:decide ((j:Int)≤300)=true:=by simp;omega
     have t5:decide ((nt:Int)≤60)=false:=by simp;omega
     have eR:R=false:=by rw[hR.out,Bool.eq_false_iff,ne_eq,oV];rintro⟨_,_,h,_⟩;omega
     exact Xc119
   ·have t4:decide ((j:Int)≤300)=false:=by simp;omega
    have eR:R=false:=by rw[hR.out,Bool.eq_false_iff,ne_eq,oV];rintro⟨_,h,_⟩;rw[List.length_map,hS.out] at h;omega
    exact Xc119
end Go.Proofs.YtobjgebojhjhnaaGreatDoor
