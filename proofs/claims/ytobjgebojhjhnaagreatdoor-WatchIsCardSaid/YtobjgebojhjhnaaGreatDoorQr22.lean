import Derived.Test.YtobjgebojhjhnaaGreatDoorTxP
import Derived.Test.YtobjgebojhjhnaaGreatDoorBss
import Derived.Test.YtobjgebojhjhnaaGreatDoorV1
import Derived.Test.YtobjgebojhjhnaaGreatDoorQr18
namespace Go.Proofs.YtobjgebojhjhnaaGreatDoor
set_option maxRecDepth 100000
set_option maxHeartbeats 16000000
open Go.RowKit Tryz
attribute [local go_sem high] eO gO gP
theorem qD {fn:Func} {p u:Tmp} {ty:TypeId} (h:fn.results= #[.cell p ty,.tmp u]) {tmps:Array Value} {P:Program} {w:World} {g:Nat} {t:TypeId} {C:List Value} (hp:tmps.getD p undef= .pointer (some ⟨g,0,none⟩)) (ha:Av w g t C) (d:TypeDesc) (hu:P.underlying ty=some d) (hd:d.isRow=true)
  (n:Nat) (hn:C.length=n) (hi:(P.info? ty).map (·.size)=some n):
  (results fn tmps).run P w= .ok (.tuple #[.agg C.toArray,tmps.getD u undef]) w:=by
 rw[results_cell_tmp h,hp]
 simp only[asAddr,Sem.run_pure,Result.andThen_ok,run_loadVar_row w g t ty _ _ d ha hu (by cases d <;> first|rfl|(simp[TypeDesc.isRow] at hd)) (by rw[List.size_toArray,hn];exact hi)]
def Gl:List UInt8:=List.replicate 32 0
theorem Ho (t:FZ) (hs:fN t=true) (ho:∀ i ∈ t.ins,i.ok):(yT t).length≤20100000:=by
 obtain⟨⟨c1,c2,c3⟩,s1,s2⟩:=(iE t).1 hs
 have h:=fun n=>(Cm.size_le n).2
 have hi:=BH Mx 10049 t.ins fun i hi=>ED i (ho i hi).1 (s1 i hi)
 have hu:=BH vD 10017 t.outs fun i hi=>BG i (s2 i hi)
 have e1:t.ins.length*10049≤1000*10049:=Nat.mul_le_mul_right _ c2
 have e2:t.outs.length*10017≤1000*10017:=Nat.mul_le_mul_right _ c3
 simp only[yT,List.length_append,Cm.lo_length,Cm.put_length]
 have h1:=h t.ins.length
 have h2:=h t.outs.length
 omega
theorem Xm129 {p q:Prop} (k:q) (h:Hid q→p:=by
 intro hk
 have hmost:=Ho (cQ ver l m lock) hs (by
  intro i hi
  obtain⟨x,hx,rfl⟩:=List.mem_map.1 hi
  exact(h1.2 x hx).1)
 obtain⟨ps,hps⟩:=Nm (yT (cQ ver l m lock))
 rw[← hps] at HP hmost ⊢
 obtain⟨K,hK⟩:=Nm (ps.length)
 rw[← hK] at hmost
 obtain⟨dd,hdd⟩:=Nm (lW ps)
 have jM:dd.length=32:=by rw[hdd,fP]
 rw[← hdd]
 revert ps HP hps K hmost hK dd hdd jM;exact hk.out):p:=h (Hy k)
theorem Xc75 {p:Prop} (h:p:=by
 rintro e w5 ⟨rfl,b5⟩
 have bw5:=bw4.trans (b5.mono bw4.size)
 have z5:=z4.b b5
 go_wp2_with (refine aP bw5 z5 hH4 rfl _ _ _ rfl rfl (dd.map bv) rfl 32 (by rw[List.length_map,jM.out]) KR (by rw[List.size_toArray,List.length_map];exact hzl.out) (by simp[Value.oneCell']) ?_;intro w6 a6 b6 k6 z6)
 refine bodyPost_ret (v:=.tuple #[.agg (dd.map bv).toArray,.int .i64 0]) ((qD (C:=dd.map bv) bM bM a6 _ SS rfl 32 (by rw[List.length_map,jM.out]) KR).trans bM) bM ?_
 exact⟨rfl,b6⟩):p:=h
theorem EJ (ver lock:Nat) (hv:ver<4294967296) (hlk:lock<4294967296) (l:List (lI × Sl)) (m:List (fA × Sl)) (A1 A2:Option Addr) (n1 n2 c1 c2:Nat) (hn1:l.length=n1) (hn2:m.length=n2) (w:World) (h1:fB w A1 l) (h2:dH w A2 m) (ht:fW w) (hs:fN (cQ ver l m lock)=true):
  Calls prog 27 #[.agg #[.int .u32 (ver:Int),.slice A1 n1 c1,.slice A2 n2 c2,.int .u32 (lock:Int)]] w fun e w'=>e= .returned (.tuple #[.agg (cK (lW (yT (cQ ver l m lock)))),.int .i64 0])∧Below w.heap.size w w':=by
 have hz:=eK
 have hzl:(List.replicate 32 (0:UInt8)).length=32:=by simp
 obtain⟨zs,hzs⟩:∃ zs:List UInt8,zs=List.replicate 32 0:=⟨_,rfl⟩
 rw[← hzs] at hz hzl
 have hzz:Gl=zs:=hzs.symm
 clear hzs
 replace hzl:=Hy hzl
 replace hzz:=Hy hzz
 obtain⟨W,hW⟩:=Nm (((w.alloc (.cells #[.int .u32 (ver:Int),.slice A1 n1 c1,.slice A2 n2 c2,.int .u32 (lock:Int)] 63)).alloc (.cells (zs.map bv).toArray 35)))
 obtain⟨H,hH⟩:=Nm (w.heap.size)
 have bW:Below w.heap.size w W:=by rw[hW];exact((Below.refl _ _).alloc LR _).alloc zS _
 have aW:Av W H 63 [.int .u32 (ver:Int),.slice A1 n1 c1,.slice A2 n2 c2,.int .u32 (lock:Int)]:=by rw[hW,hH];exact heap_alloc2_old _ _ _
 have zW:Av W (H+1) 35 (zs.map bv):=by rw[hW,hH];exact heap_alloc2_new _ _ _
 replace hW:=Hy hW
 replace hH:=Hy hH
 have HP:=Hy (fun w' q1 q2=>MF ver lock hv hlk l m A1 A2 n1 n2 c1 c2 hn1 hn2 w' q1 q2 hs)
 refine Xm129 ?_;try clear HP;intro ps HP hps K hmost hK dd hdd jM
 have HD:=fun A c w' hc q t=>Ep ps A K c hK.symm hc OM w' q t
 rw[← hdd] at HD
 replace HD:=Hy HD
 replace jM:=Hy jM
 replace hdd:=Hy hdd
 replace hK:=Hy hK
 replace hps:=Hy hps
 clear hs hn1 hn2
 go_enter func27,ntmps27
 go_upto_region 1 with fail
 rw[← hW.out,← hH.out]
 go_upto_region 4 with (first
  |((with_reducible refine LH aW 4 Tg ?_ ?_);rfl)
  |(go_at_call 56;refine(HP.out _ (h1.b bW) (h2.b bW)).mono ?_;rintro e w4 ⟨v4,rfl,ho,b4⟩;obtain⟨A4,c4,rfl,hc4,_⟩:=ho.formN K hK.out.symm))
 have bw4:=bW.trans (b4.mono bW.size)
 have z4:=zW.b b4
 have hH4:w.heap.size≤H+1:=by rw[hH.out];omega
 have hr4:=ho.rd
 clear ho
 go_wp2_with fail
 refine(HD.out A4 c4 w4 hc4 hr4 (ht.b bw4)).mono ?_
 exact Xc75
end Go.Proofs.YtobjgebojhjhnaaGreatDoor
namespace Go.Proofs.YtobjgebojhjhnaaGreatDoor
open Go.RowKit Tryz
attribute [local go_sem high] eO gO gP
def RJ (ver lock n1 n2:Nat) (l:List (lI × Sl)) (m:List (fA × Sl)):VP:=fun v w=>∃ (B1 B2:Option Addr) (d1 d2:Nat),v= .agg #[.int .u32 (ver:Int),.slice B1 n1 d1,.slice B2 n2 d2,.int .u32 (lock:Int)]∧fB w B1 l∧dH w B2 m
theorem RJ.mono {ver lock n1 n2:Nat} {l:List (lI × Sl)} {m:List (fA × Sl)} {v:Value} {w w':World} (h:cI w w'):RJ ver lock n1 n2 l m v w→RJ ver lock n1 n2 l m v w':=by
 rintro⟨B1,B2,d1,d2,rfl,q1,q2⟩
 exact⟨B1,B2,d1,d2,rfl,q1.b h,q2.b h⟩
theorem JZ {a b:List UInt8} (x y:Operand) (w:World):(do eqGuard .eql 9 x y (.string ⟨a.toArray⟩) (.string ⟨b.toArray⟩);binOp .eql 9 (.string ⟨a.toArray⟩) (.string ⟨b.toArray⟩):Sem Value).run prog w= .ok (.bool (a==b)) w:=by
 go_simp
end Go.Proofs.YtobjgebojhjhnaaGreatDoor
namespace Go.Proofs.YtobjgebojhjhnaaGreatDoor
set_option maxRecDepth 100000
set_option maxHeartbeats 16000000
open Go.RowKit Tryz
attribute [local go_sem high] eO gO gP
theorem QA (x y:List UInt8) (hx:x.length=32) (hy:y.length=32) (p q:Operand) (w:World):(do eqGuard .eql 35 p q (.agg (cK x)) (.agg (cK y));binOp .eql 35 (.agg (cK x)) (.agg (cK y)):Sem Value).run prog w= .ok (.bool (x==y)) w:=by
 rw[Sem.run_bind,show (eqGuard .eql 35 p q (.agg (cK x)) (.agg (cK y))).run prog w= .ok () w by go_simp]
 simpa using Ol x y hx hy w
theorem Xm58 {p q:Prop} (k:q) (h:Hid q→p:=by
 intro hk
 have hz:=eK
 have hzl:(List.replicate 32 (0:UInt8)).length=32:=by simp
 obtain⟨zs,hzs⟩:∃ zs:List UInt8,zs=List.replicate 32 0:=⟨_,rfl⟩
 rw[← hzs] at hz hzl
 have hzz:Gl=zs:=hzs.symm
 clear hzs
 replace hzl:=Hy hzl
 replace hzz:=Hy hzz
 obtain⟨W,hW⟩:=Nm (((w.alloc (.cells #[.int .u32 (ver:Int),.slice A1 n1 c1,.slice A2 n2 c2,.int .u32 (lock:Int)] 32)).alloc (.cells (zs.map bv).toArray 35)))
 obtain⟨H,hH⟩:=Nm (w.heap.size)
 have bW:Below w.heap.size w W:=by rw[hW];exact((Below.refl _ _).alloc LR _).alloc zS _
 have aW:Av W H 32 [.int .u32 (ver:Int),.slice A1 n1 c1,.slice A2 n2 c2,.int .u32 (lock:Int)]:=by rw[hW,hH];exact heap_alloc2_old _ _ _
 have zW:Av W (H+1) 35 (zs.map bv):=by rw[hW,hH];exact heap_alloc2_new _ _ _
 replace hW:=Hy hW
 replace hH:=Hy hH
 revert zs hz hzl hzz W H bW aW zW hW hH;exact hk.out):p:=h (Hy k)
theorem MJ (ver lock:Nat) (_:ver<4294967296) (_:lock<4294967296) (l:List (lI × Sl)) (m:List (fA × Sl)) (A1 A2:Option Addr) (n1 n2 c1 c2:Nat) (hn1:l.length=n1) (hn2:m.length=n2) (w:World) (h1:fB w A1 l) (h2:dH w A2 m) (hm1:n1≤maxLen) (hm2:n2≤maxLen) (hs:fN (cQ ver l m lock)=false):
  Calls prog 41 #[.agg #[.int .u32 (ver:Int),.slice A1 n1 c1,.slice A2 n2 c2,.int .u32 (lock:Int)]] w fun e w'=>e= .returned (.tuple #[.agg (cK Gl),.int .i64 3])∧Below w.heap.size w w':=by
 refine Xm58 ?_;intro zs hz hzl hzz W H bW aW zW hW hH
 have HP:=Hy (fun w' q1 q2=>Kj ver lock l m A1 A2 n1 n2 c1 c2 hn1 hn2 w' q1 q2 hm1 hm2 hs)
 clear hs hn1 hn2
 go_enter func41,ntmps41
 go_upto_region 1 with fail
 rw[← hW.out,← hH.out]
 go_upto_region 3 with (first
  |((with_reducible refine LH aW 4 Ti ?_ ?_);rfl)
  |(go_at_call 66;refine(HP.out _ (h1.b bW) (h2.b bW)).mono ?_;rintro e w4 ⟨rfl,b4⟩))
 have bw4:=bW.trans (b4.mono bW.size)
 have z4:=zW.b b4
 have hH4:w.heap.size≤H+1:=by rw[hH.out];omega
 go_wp2_with (refine aP bw4 z4 hH4 rfl _ _ _ rfl rfl (zs.map bv) rfl 32 (by rw[List.length_map,hzl.out]) KR (by rw[List.size_toArray,List.length_map];exact hzl.out) (by simp[Value.oneCell']) ?_;intro w6 a6 b6 k6 z6)
 refine bodyPost_ret (v:=.tuple #[.agg (zs.map bv).toArray,.int .i64 3]) ((qD (C:=zs.map bv) bM bM a6 _ SS rfl 32 (by rw[List.length_map,hzl.out]) KR).trans bM) bM ?_
 exact⟨by rw[hzz.out],b6⟩
theorem Pg (ver lock:Nat) (hv:ver<4294967296) (hlk:lock<4294967296) (l:List (lI × Sl)) (m:List (fA × Sl)) (A1 A2:Option Addr) (n1 n2 c1 c2:Nat) (hn1:l.length=n1) (hn2:m.length=n2) (w:World) (h1:fB w A1 l) (h2:dH w A2 m) (hs:fN (cQ ver l m lock)=true):
  Calls prog 41 #[.agg #[.int .u32 (ver:Int),.slice A1 n1 c1,.slice A2 n2 c2,.int .u32 (lock:Int)]] w fun e w'=>e= .returned (.tuple #[.agg (cK (lW (yT (cQ ver l m lock)))),.int .i64 0])∧Below w.heap.size w w':=by
 refine Xm58 ?_;intro zs hz hzl hzz W H bW aW zW hW hH
 have HP:=Hy (fun w' q1 q2=>MH ver lock hv hlk l m A1 A2 n1 n2 c1 c2 hn1 hn2 w' q1 q2 hs)
 refine Xm129 ?_;try clear HP;intro ps HP hps K hmost hK dd hdd jM
 have HD:=fun A c w' q=>BO ps A K c hK.symm OM w' q
 rw[← hdd] at HD
 replace HD:=Hy HD
 replace jM:=Hy jM
 replace hdd:=Hy hdd
 replace hK:=Hy hK
 replace hps:=Hy hps
 clear hs hn1 hn2
 go_enter func41,ntmps41
 go_upto_region 1 with fail
 rw[← hW.out,← hH.out]
 go_upto_region 4 with (first
  |((with_reducible refine LH aW 4 Ti ?_ ?_);rfl)
  |(go_at_call 66;refine(HP.out _ (h1.b bW) (h2.b bW)).mono ?_;rintro e w4 ⟨v4,rfl,ho,b4⟩;obtain⟨A4,c4,rfl,_,_⟩:=ho.formN K hK.out.symm))
 have bw4:=bW.trans (b4.mono bW.size)
 have z4:=zW.b b4
 have hH4:w.heap.size≤H+1:=by rw[hH.out];omega
 have hr4:=ho.rd
 clear ho
 go_wp2_with fail
 refine(HD.out A4 c4 w4 hr4).mono ?_
 exact Xc75
theorem Xc130 {p:Prop} (h:p:=by
 refine jN cI.refl rfl rfl rfl rfl _ _ _ _ _ rfl pB pB (c:=.bool true) (fun w=>heq.out _ _ w) zZ ?_
 refine bO fun w6 hw6=>aF ?_
 have bq6:=bw0.trans (hw6.drew.mono bw0.size)
 go_wp2
 go_ret
 exact⟨rfl,bq6⟩):p:=h
theorem Xm117 {p q:Prop} (k:q) (h:Hid q→p:=by
 intro hk
 refine ZR ?_
 repeat refine ZP (fun w hw=>by have:=(aq.b hw.drew).cell 2 _ rfl;have:=m0;have:=m1;have:=hx1.out w hw.drew;exact zG) ?_
 refine uR rfl rfl rfl rfl _ rfl rfl xs hxl2.out (fun w hw=>hsx.out w hw.drew) zZ ?_
 repeat refine ZP (fun w hw=>by have:=m2;have:=m3;have:=hs1.out w hw.drew;exact zG) ?_
 refine uR rfl rfl rfl rfl _ rfl rfl ss hsl2.out (fun w hw=>hss.out w hw.drew) zZ ?_
 exact hk.out):p:=h (Hy k)
theorem Xm97 {p q:Prop} (k:q) (h:Hid q→p:=by
 intro hk
 refine ZR ?_
 repeat first|refine ZP (fun w hw=>by have:=(aq.b hw.drew).cell 1 _ rfl;have:=m0;have:=m1;have:=m2;have:=m3;exact zG) ?_|refine ZP (c:=.agg (cK xp)) (fun w hw=>bJ _ _ rfl b1 (o1+k*35) rfl (xp.map bv) _ (hxr.out _ hw.drew) SS rfl (by rw[xpv32.out];kernel_rfl)) ?_|refine ZP (c:=.agg (cK sp)) (fun w hw=>bJ _ _ rfl b2 (o2+j*32) rfl (sp.map bv) _ (hsr.out _ hw.drew) SS rfl (by rw[spv32.out];kernel_rfl)) ?_
 exact hk.out):p:=h (Hy k)
theorem Ph (ver lock:Nat) (l:List (lI × Sl)) (m:List (fA × Sl)) (A1 A2:Option Addr) (n1 n2 c1 c2:Nat) (hn1:l.length=n1) (hn2:m.length=n2) (hm1:n1≤100000) (hm2:n2≤100000) (S:List (List UInt8 × Sl)) (As:Option Addr) (ns cs:Nat) (hns:S.length=ns) (hms:ns≤100000)
  (Hs:List (List UInt8)) (Ah:Option Addr) (nh ch:Nat) (hnh:Hs.length=nh) (hmh:nh≤100000) (w:World) (h1:fB w A1 l) (h2:dH w A2 m) (rs:dU w As S) (rh:fD w Ah Hs) (b:Bool) (hb:Eb (cQ ver l m lock) (S.map (·.1)) Hs=b):
  Calls prog 42 #[.agg #[.int .u32 (ver:Int),.slice A1 n1 c1,.slice A2 n2 c2,.int .u32 (lock:Int)],.slice As ns cs,.slice Ah nh ch] w fun e w'=>e= .returned (.bool b)∧Below w.heap.size w w':=by
 obtain⟨W,hW⟩:=Nm (w.alloc (.cells #[.int .u32 (ver:Int),.slice A1 n1 c1,.slice A2 n2 c2,.int .u32 (lock:Int)] 32))
 obtain⟨H,hH⟩:=Nm (w.heap.size)
 have bW:Below w.heap.size w W:=by rw[hW];exact(Below.refl _ _).alloc LR _
 have aW:Av W H 32 [.int .u32 (ver:Int),.slice A1 n1 c1,.slice A2 n2 c2,.int .u32 (lock:Int)]:=by rw[hW,hH];exact heap_alloc_new _ _
 replace hn1:=Hy hn1
 replace hn2:=Hy hn2
 replace hns:=Hy hns
 replace hnh:=Hy hnh
 replace hW:=Hy hW
 replace hH:=Hy hH
 replace hb:=Hy hb
 have q2:=aW.cell 2 _ rfl
 go_enter func42,ntmps42
 go_upto_region 1 with fail
 rw[← hW.out,← hH.out]
 go_wp2
 clear q2
 go_loopw [7,8] (fun i _ wr=>∃ k:Nat,k≤n2∧i= .int .i64 (k:Int)∧Hid (∀ e ∈ m.take k,∀ s ∈ S,e.1.scr≠s.1)∧Below W.heap.size W wr) (fun i _ _=>n2 - (intOf i).toNat)
 case atStart=>exact⟨0,by omega,rfl,Hy zS,Below.refl _ _⟩
 case round=>
  obtain⟨k,hk,rfl,hall,bk⟩:=hrel
  have bw0:Below w.heap.size w wr:=bW.trans (bk.mono bW.size)
  have q2:=(aW.b bk).cell 2 _ rfl
  by_cases hlt:k<n2
  ·have t4:decide ((k:Int)<(n2:Int))=true:=by simp;omega
   obtain⟨x,hx⟩:∃ x,m[k]? =some x:=⟨_,List.getElem?_eq_getElem (by rw[hn2.out];exact hlt)⟩
   obtain⟨b1,o1,rfl⟩:=h2.adr (by rw[hn2.out];omega)
   obtain⟨xs,hxs⟩:=Nm (x.1.scr)
   obtain⟨xl,hxl⟩:=Nm (x.1.scr.length)
   have hxl2:xs.length=xl:=by rw[hxs,hxl]
   have hxo:kB x= [.int .u64 (x.1.val:Int),.slice x.2.1 xl x.2.2]:=by rw[hxl];rfl
   have m0:0≤(k:Int):=by omega
   have m1:(k:Int)<(n2:Int):=by omega
   clear hxl
   replace hx:=Hy hx
   replace hxs:=Hy hxs
   replace hxl2:=Hy hxl2
   replace hxo:=Hy hxo
   go_wp2
   clear q2
   go_loopw [8] (fun i wr=>∃ j:Nat,j≤ns∧i= .int .i64 (j:Int)∧Hid (∀ s ∈ S.take j,xs≠s.1)∧Below W.heap.size W wr) (fun i _=>ns - (intOf i).toNat)
   case atStart=>exact⟨0,by omega,rfl,Hy zS,bk⟩
   case round=>
    clear bk bw0
    obtain⟨j,hj,rfl,hin,bq⟩:=hrel
    have bw0:Below w.heap.size w wr:=bW.trans (bq.mono bW.size)
    by_cases hlt2:j<ns
    ·have t5:decide ((j:Int)<(ns:Int))=true:=by simp;omega
     obtain⟨s,hs⟩:∃ s,S[j]? =some s:=⟨_,List.getElem?_eq_getElem (by rw[hns.out];exact hlt2)⟩
     obtain⟨b2,o2,rfl⟩:=rs.adr (by rw[hns.out];omega)
     have aq:=aW.b bq
     have hx1:∀ w',Below wr.heap.size wr w'→w'.cell? ⟨b1,o1+k*2+1,none⟩=some (.slice x.2.1 xl x.2.2):=fun w' hE=>((h2.b (bw0.trans (hE.mono bw0.size))).nth k x hx.out).1 1 _ (by rw[hxo.out];rfl)
     have hsx:∀ w',Below wr.heap.size wr w'→Rd w' x.2.1 (xs.map bv):=fun w' hE=>by rw[hxs.out];exact((h2.b (bw0.trans (hE.mono bw0.size))).nth k x hx.out).2.2.1
     obtain⟨ss,hse⟩:=Nm (s.1)
     obtain⟨sl,hsl⟩:=Nm (s.1.length)
     have hsl2:ss.length=sl:=by rw[hse,hsl]
     have hs1:∀ w',Below wr.heap.size wr w'→w'.cell? ⟨b2,o2+j,none⟩=some (.slice s.2.1 sl s.2.2):=fun w' hE=>by rw[hsl];exact((rs.b (bw0.trans (hE.mono bw0.size))).nth j s hs).1
     have hss:∀ w',Below wr.heap.size wr w'→Rd w' s.2.1 (ss.map bv):=fun w' hE=>by rw[hse];exact((rs.b (bw0.trans (hE.mono bw0.size))).nth j s hs).2.1
     have heq:=fun x y=>JZ (a:=xs) (b:=ss) x y
     obtain⟨q,hq⟩:∃ q,(xs==ss)=q:=⟨_,rfl⟩
     rw[hq] at heq
     have m2:0≤(j:Int):=by omega
     have m3:(j:Int)<(ns:Int):=by omega
     clear hsl
     replace hs:=Hy hs
     replace hq:=Hy hq
     replace heq:=Hy heq
     replace hx1:=Hy hx1
     replace hsx:=Hy hsx
     replace hs1:=Hy hs1
     replace hss:=Hy hss
     replace hse:=Hy hse
     replace hsl2:=Hy hsl2
     go_upto_region 7 with fail
     cases q
     ·refine Xm117 ?_
      refine jN cI.refl rfl rfl rfl rfl _ _ _ _ _ rfl pB pB (c:=.bool false) (fun w=>heq.out _ _ w) zZ ?_
      refine bO fun w6 hw6=>aF ?_
      have bq6:=bq.trans (hw6.drew.mono bq.size)
      go_wp2
      go_roundw
      case rel=>
       refine⟨j+1,by omega,by go_num,Hy ?_,bq6⟩
       intro s' hs'
       rcases dJ hs.out hs' with h|rfl
       ·exact hin.out s' h
       ·exact fun e=>by have:=hq.out;rw[hse.out,e] at this;simp at this
      case measure=>simp[intOf];omega
     ·obtain rfl:b=true:=by
       rw[← hb.out,Eb,Bool.or_eq_true]
       refine .inl (CU (o:=x.1) (s:=s.1) (List.mem_map.2 ⟨x,List.mem_of_getElem? hx.out,rfl⟩) (List.mem_map.2 ⟨s,List.mem_of_getElem? hs.out,rfl⟩) ?_)
       rw[← hxs.out,← hse.out]
       exact eq_of_beq hq.out
      refine Xm117 ?_
      exact Xc130
    ·obtain rfl:ns=j:=by omega
     have t5:decide ((ns:Int)<(ns:Int))=false:=by simp
     go_wp2
     refine⟨⟨k+1,by omega,by go_num,Hy ?_,bq⟩,?_⟩
     ·intro e he s hs
      rcases dJ hx.out he with h|rfl
      ·exact hall.out e h s hs
      ·rw[← hxs.out]
       exact hin.out s (by rw[List.take_of_length_le (by rw[hns.out];omega)];exact hs)
     ·simp[intOf];omega
  ·obtain rfl:n2=k:=by omega
   have t4:decide ((n2:Int)<(n2:Int))=false:=by simp
   have hno:CS (m.map (·.1)) (S.map (·.1))=false:=by
    refine Gb fun o ho s hs=>?_
    obtain⟨e,he,rfl⟩:=List.mem_map.1 ho
    obtain⟨f,hf,rfl⟩:=List.mem_map.1 hs
    exact hall.out e (by rw[List.take_of_length_le (by rw[hn2.out];omega)];exact he) f hf
   replace hno:=Hy hno
   clear hall
   have q1:=(aW.b bk).cell 1 _ rfl
   go_wp2
   clear q1 bw0 q2
   go_loopw [9,10] (fun i _ wr=>∃ k:Nat,k≤n1∧i= .int .i64 (k:Int)∧Hid (∀ e ∈ l.take k,∀ s ∈ Hs,e.1.prev≠s)∧Below W.heap.size W wr) (fun i _ _=>n1 - (intOf i).toNat)
   case atStart=>exact⟨0,by omega,rfl,Hy zS,bk⟩
   case round=>
    clear bk
    obtain⟨k,hk,rfl,hall,bk⟩:=hrel
    have bw0:Below w.heap.size w wr:=bW.trans (bk.mono bW.size)
    have q1:=(aW.b bk).cell 1 _ rfl
    by_cases hlt:k<n1
    ·have t4:decide ((k:Int)<(n1:Int))=true:=by simp;omega
     obtain⟨x,hx⟩:∃ x,l[k]? =some x:=⟨_,List.getElem?_eq_getElem (by rw[hn1.out];exact hlt)⟩
     obtain⟨b1,o1,rfl⟩:=h1.adr (by rw[hn1.out];omega)
     have hix:=((h1.b bw0).nth k x hx).2
     have hp32:x.1.prev.length=32:=hix.1.1
     obtain⟨xp,hxp⟩:=Nm (x.1.prev)
     have hinc:sB x=xp.map bv++ [.int .u32 (x.1.idx:Int),BE x.1.scr.length x.2,.int .u32 (x.1.seq:Int)]:=by rw[hxp];rfl
     rw[← hxp] at hp32
     have xpv32:(xp.map bv).length=32:=by rw[List.length_map,hp32]
     have m0:0≤(k:Int):=by omega
     have m1:(k:Int)<(n1:Int):=by omega
     clear hix
     replace hx:=Hy hx
     replace hxp:=Hy hxp
     replace hp32:=Hy hp32
     replace xpv32:=Hy xpv32
     replace hinc:=Hy hinc
     go_wp2
     clear q1
     go_loopw [10] (fun i wr=>∃ j:Nat,j≤nh∧i= .int .i64 (j:Int)∧Hid (∀ s ∈ Hs.take j,xp≠s)∧Below W.heap.size W wr) (fun i _=>nh - (intOf i).toNat)
     case atStart=>exact⟨0,by omega,rfl,Hy zS,bk⟩
     case round=>
      clear bk bw0
      obtain⟨j,hj,rfl,hin,bq⟩:=hrel
      have bw0:Below w.heap.size w wr:=bW.trans (bq.mono bW.size)
      by_cases hlt2:j<nh
      ·have t5:decide ((j:Int)<(nh:Int))=true:=by simp;omega
       obtain⟨sp,hs⟩:∃ s,Hs[j]? =some s:=⟨_,List.getElem?_eq_getElem (by rw[hnh.out];exact hlt2)⟩
       obtain⟨b2,o2,rfl⟩:=rh.adr (by rw[hnh.out];omega)
       have aq:=aW.b bq
       have hs32:sp.length=32:=rh.2 sp (List.mem_of_getElem? hs)
       have spv32:(sp.map bv).length=32:=by rw[List.length_map,hs32]
       have hxr:∀ w',Below wr.heap.size wr w'→w'.rangeAt b1 (o1+k*35) (xp.map bv):=fun w' hE i v hv=>((h1.b (bw0.trans (hE.mono bw0.size))).nth k x hx.out).1 i v (by
        rw[hinc.out,List.getElem?_append_left (List.getElem?_eq_some_iff.1 hv).1];exact hv)
       have hsr:∀ w',Below wr.heap.size wr w'→w'.rangeAt b2 (o2+j*32) (sp.map bv):=fun w' hE=>(rh.b (bw0.trans (hE.mono bw0.size))).nth j sp hs
       have heq:=fun p q=>QA xp sp hp32.out hs32 p q
       obtain⟨q,hq⟩:∃ q,(xp==sp)=q:=⟨_,rfl⟩
       rw[hq] at heq
       have m2:0≤(j:Int):=by omega
       have m3:(j:Int)<(nh:Int):=by omega
       replace hs:=Hy hs
       replace hq:=Hy hq
       replace heq:=Hy heq
       replace hs32:=Hy hs32
       replace spv32:=Hy spv32
       replace hxr:=Hy hxr
       replace hsr:=Hy hsr
       go_upto_region 15 with fail
       cases q
       ·refine Xm97 ?_
        refine jN cI.refl rfl rfl rfl rfl _ _ _ _ _ rfl pB pB (c:=.bool false) (fun w=>heq.out _ _ w) zZ ?_
        refine bO fun w6 hw6=>aF ?_
        have bq6:=bq.trans (hw6.drew.mono bq.size)
        go_wp2
        go_roundw
        case rel=>
         refine⟨j+1,by omega,by go_num,Hy ?_,bq6⟩
         intro s' hs'
         rcases dJ hs.out hs' with h|rfl
         ·exact hin.out s' h
         ·exact fun e=>by have:=hq.out;rw[e] at this;simp at this
        case measure=>simp[intOf];omega
       ·obtain rfl:b=true:=by
         rw[← hb.out,Eb,Bool.or_eq_true]
         refine .inr (CV (i:=x.1) (x:=sp) (List.mem_map.2 ⟨x,List.mem_of_getElem? hx.out,rfl⟩) (List.mem_of_getElem? hs.out) ?_)
         rw[← hxp.out]
         exact eq_of_beq hq.out
        refine Xm97 ?_
        exact Xc130
      ·obtain rfl:nh=j:=by omega
       have t5:decide ((nh:Int)<(nh:Int))=false:=by simp
       go_wp2
       refine⟨⟨k+1,by omega,by go_num,Hy ?_,bq⟩,?_⟩
       ·intro e he s hs
        rcases dJ hx.out he with h|rfl
        ·exact hall.out e h s hs
        ·rw[← hxp.out]
         exact hin.out s (by rw[List.take_of_length_le (by rw[hnh.out];omega)];exact hs)
       ·simp[intOf];omega
    ·obtain rfl:n1=k:=by omega
     have t4:decide ((n1:Int)<(n1:Int))=false:=by simp
     obtain rfl:b=false:=by
      rw[← hb.out,Eb,cQ,hno.out,Bool.false_or]
      refine Gc fun o ho s hs=>?_
      obtain⟨e,he,rfl⟩:=List.mem_map.1 ho
      exact hall.out e (by rw[List.take_of_length_le (by rw[hn1.out];omega)];exact he) s hs
     go_wp2
     go_ret
     exact⟨rfl,bw0⟩
end Go.Proofs.YtobjgebojhjhnaaGreatDoor
