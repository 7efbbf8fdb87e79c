import Derived.Test.YtobjgebojhjhnaaGreatDoorQr24
import Derived.Test.YtobjgebojhjhnaaGreatDoorJmp
namespace Go.Proofs.YtobjgebojhjhnaaGreatDoor
set_option maxRecDepth 100000
set_option maxHeartbeats 16000000
open Go.RowKit Tryz
attribute [local go_sem high] eO gO gP
def Sv (fl:List UInt8) (hs:List (List UInt8)) (tot:Nat) (Ah:Option Addr) (nh ch:Nat) (Af:Option Addr) (nf cf R G X B:Nat) (w0:World) (ans:Option kG) (m:Nat) (a:Act) (w:World):Prop:=
 ∃ (d k h i:Nat) (v7 v8:Value) (sk:List xX) (l:List (Nat × List UInt8)),Dt a 114 [(0,.pointer (some ⟨R,0,none⟩)),(2,.pointer (some ⟨G,0,none⟩)),(5,.int .i64 (tot:Int)),(6,.pointer (some ⟨X,0,none⟩)),(7,v7),(8,v8)]∧Su tot Ah nh ch Af nf cf R G X B w0 w d k h i v7 v8 sk l∧(∀ f ∈ sk,f.ok)∧(∀ p ∈ l,p.2.length=32)∧
  h≤12∧i<mN tot h∧d≤8*nf∧l.length≤k∧k≤nh∧sk.length≤d∧m=sX nf d sk∧mD tot fl hs sk.reverse h i l d k=ans
def Sw (fl:List UInt8) (hs:List (List UInt8)) (tot:Nat) (Ah:Option Addr) (nh ch:Nat) (Af:Option Addr) (nf cf R G X B:Nat) (w0:World) (ans:Option kG) (m:Nat) (a:Act) (w:World):Prop:=
 ∃ (d k:Nat) (h i:Int) (v7 v8:Value) (sk:List xX) (l:List (Nat × List UInt8)) (x:List UInt8) (Hh:Nat),Dt a 114 [(0,.pointer (some ⟨R,0,none⟩)),(2,.pointer (some ⟨G,0,none⟩)),(5,.int .i64 (tot:Int)),(6,.pointer (some ⟨X,0,none⟩)),(7,v7),(8,v8),(11,.pointer (some ⟨Hh,0,none⟩))]∧Su tot Ah nh ch Af nf cf R G X B w0 w d k h i v7 v8 sk l∧(∀ f ∈ sk,f.ok)∧(∀ p ∈ l,p.2.length=32)∧
  Av w Hh 35 (x.map bv)∧B≤Hh∧Hh≠G∧x.length=32∧d≤8*nf∧l.length≤k∧k≤nh∧sk.length≤d∧m=sX nf d sk+1∧Cp tot fl hs sk.reverse x l d k=ans
theorem xZ {P:Program} (ty:TypeId) {w:World} {b off:Nat} (vs:List Value) (hth:w.there b off vs.length) {ops:Array Oper} {rest:List Oper} {a:Act} {Q:Exit→Act→World→Prop} {d tp pos af} {x y:Operand}
  (hx:a.eval x= .pointer (some ⟨b,off,none⟩)) (hy:a.eval y= .agg vs.toArray) (hi:(P.info? ty).map (·.size)=some vs.length) (h1:vs.all (·.oneCell')=true)
  (k:wpList P ops Q rest (a.put d undef) (w.setCells b off vs)):wpList P ops Q (⟨d,.store ty x y,tp,pos,af,none⟩ :: rest) a w:=
 wpList_store_mid rfl ty x y rfl b off vs.toArray hx hy (by simpa using hth) (by simpa using hi) (by simpa using h1) (by simpa using k)
theorem yA {P:Program} {ty:TypeId} {parts:Array (Nat × Operand)} {ops:Array Oper} {rest:List Oper} {a:Act} {w:World} {Q:Exit→Act→World→Prop} {d tp pos af} (v:Value) (h:(execOp a.eval ⟨d,.build ty parts,tp,pos,af,none⟩).run P w= .ok (.value v) w) (k:wpList P ops Q rest (a.put d v) w):wpList P ops Q (⟨d,.build ty parts,tp,pos,af,none⟩ :: rest) a w:=
 eF rfl h k
theorem QG {α:Type} {l:List α} (h:l.length=32):∃ v0 v1 v2 v3 v4 v5 v6 v7 v8 v9 v10 v11 v12 v13 v14 v15 v16 v17 v18 v19 v20 v21 v22 v23 v24 v25 v26 v27 v28 v29 v30 v31,l= [v0,v1,v2,v3,v4,v5,v6,v7,v8,v9,v10,v11,v12,v13,v14,v15,v16,v17,v18,v19,v20,v21,v22,v23,v24,v25,v26,v27,v28,v29,v30,v31]:=by
 match l,h with
 | [v0,v1,v2,v3,v4,v5,v6,v7,v8,v9,v10,v11,v12,v13,v14,v15,v16,v17,v18,v19,v20,v21,v22,v23,v24,v25,v26,v27,v28,v29,v30,v31],_=>exact⟨v0,v1,v2,v3,v4,v5,v6,v7,v8,v9,v10,v11,v12,v13,v14,v15,v16,v17,v18,v19,v20,v21,v22,v23,v24,v25,v26,v27,v28,v29,v30,v31,rfl⟩
theorem Xc162 {p:Prop} (h:p:=by
 obtain⟨v0,v1,v2,v3,v4,v5,v6,v7,v8,v9,v10,v11,v12,v13,v14,v15,v16,v17,v18,v19,v20,v21,v22,v23,v24,v25,v26,v27,v28,v29,v30,v31,rfl⟩:=QG hx
 kernel_rfl):p:=h
theorem KA (i:Int) (x:List UInt8) (hx:x.length=32):prog.built 131 [(0,.int .i64 i),(1,.agg (x.map bv).toArray)]=some ([Value.int .i64 i]++x.map bv).toArray:=by
 exact Xc162
theorem vQ (i:Int) (x:List UInt8) (hx:x.length=32) {ops:Array Oper} {rest:List Oper} {a:Act} {w:World} {Q:Exit→Act→World→Prop} {d tp pos af} {x0 x1:Operand} (h0:a.eval x0= .int .i64 i) (h1:a.eval x1= .agg (x.map bv).toArray)
  (k:wpList prog ops Q rest (a.put d (.agg ([Value.int .i64 i]++x.map bv).toArray)) w):wpList prog ops Q (⟨d,.build 131 #[(0,x0),(1,x1)],tp,pos,af,none⟩ :: rest) a w:=by
 refine eF rfl ?_ k
 have:=run_build (P:=prog) w 131 #[(0,.int .i64 i),(1,.agg (x.map bv).toArray)] _ (KA i x hx)
 unfold execOp
 simp only[Sem.run_bind,List.map_toArray,List.map_cons,List.map_nil,h0,h1,this,Result.andThen_ok]
 rfl
theorem Fa (n h:Nat) (h0:0<n):mN n h≤n:=by
 induction h with
 |zero=>rw[Dm];exact Nat.le_refl _
 |succ h ih=>rw[xQ];omega
theorem AG {K:Act→World→Prop} {Q:Exit→Act→World→Prop} {a:Act} {w:World} {l:Nat} (h:Q (.goto l) a w):Exit.then K Q (.goto l) a w:=h
theorem rP {J:Nat→Act→World→Prop} {Q:Exit→Act→World→Prop} {a:Act} {w:World} (h:Q .ret a w):kH J Q .ret a w:=h
theorem pT {J:Nat→Act→World→Prop} {Q:Exit→Act→World→Prop} {a:Act} {w:World} {l:Nat} (h:J l a w):kH J Q (.goto l) a w:=h
theorem Fr.rdE {S:Nat→Prop} {w w':World} {A:Option Addr} {xs:List Value} (h:Fr S w w') (hr:Rd w A xs) (hA:xs≠ []→ ∀ a,A=some a→¬ S a.block):Rd w' A xs:=by
 by_cases e:xs= []
 ·exact .inl e
 ·exact h.rd hr (hA e)
theorem Fb {α:Type} (l:List α):l= []∨∃ s f,l=s++ [f]:=by
 rcases List.eq_nil_or_concat l with h|⟨s,f,h⟩
 ·exact .inl h
 ·exact .inr ⟨s,f,by rw[h,List.concat_eq_append]⟩
theorem Fr.ofStore {B g:Nat} {w w2:World} (b:Below B w w2) (k:∀ k,k≠g→w2.heap[k]? =w.heap[k]?) (z:w2.heap.size=w.heap.size):Fr (fun j=>j=g) w w2:=⟨b.os,b.tape,b.output,by rw[z];exact Nat.le_refl _,fun j _ hj=>k j hj⟩
theorem Xm105 {p q:Prop} (k:q) (h:Hid q→p:=by
 intro hk
 generalize f 12=u12
 generalize f 13=u13
 generalize f 14=u14
 generalize f 15=u15
 generalize f 16=u16
 generalize f 17=u17
 generalize f 18=u18
 generalize f 19=u19
 generalize f 20=u20
 generalize f 21=u21
 generalize f 22=u22
 generalize f 23=u23
 generalize f 24=u24
 generalize f 25=u25
 generalize f 26=u26
 generalize f 27=u27
 generalize f 28=u28
 generalize f 29=u29
 generalize f 30=u30
 generalize f 31=u31
 generalize f 32=u32
 generalize f 33=u33
 revert u12 u13 u14 u15 u16 u17 u18 u19 u20 u21 u22 u23 u24 u25 u26 u27 u28 u29 u30 u31 u32 u33;exact hk.out):p:=h (Hy k)
theorem Xc42 {p:Prop} (h:p:=by
 go_upto_region 12 with (first
  |(go_at_call 105;refine(HH.out).mono ?_;rintro e w3 ⟨rfl,b3⟩)
  |((with_reducible refine SN (bV.map bv) 32 ?_ ?_ ?_ (h1:=hzone.out));rfl;rfl;intro w4 aH4 b4 k4 z4))
 have b24:=b3.trans (b4.mono b3.size)
 have aG4:=aG2.b b24
 have aR4:=aR2.b b24
 have fr4:=fr2.trans (Below.fr b24)
 clear aG2 aR2 aX2 b3 b4 k4 z4 b24 fr2 xh xi
 go_wp2_with (first
  |((with_reducible refine SF (Below.refl G w4) aG4 LR (bV.map bv) 32 ?_ ?_ ?_ (h1:=hzone.out));rfl;rfl;intro w9 a9 b9 k9 z9))
 refine rP ?_
 have f9:=Fr.ofStore b9 k9 z9
 refine bodyPost_ret (v:=.tuple #[.agg (cK bV),.slice none 0 0,.bool false]) ((cC (C:=bV.map bv) bM bM a9 _ SS rfl 32 rfl KR).trans bM) bM ?_
 exact⟨Fr.transNew fr4 f9 (fun j h=>.inr (by rw[h];exact hGw)),rfl,_,_,f9.av aR4 (Ne.symm hGR)⟩):p:=h
theorem QH (fl:List UInt8) (hs:List (List UInt8)) (h32:dV hs) (tot:Nat) (Ah:Option Addr) (nh ch:Nat) (Af:Option Addr) (nf cf R:Nat) (hnh:hs.length=nh) (hnf:fl.length=nf) (ht0:0<tot) (ht:tot≤4096) (hnf2:nf≤10000) (hnh2:nh≤10000) (w:World)
  (hA:Av w R 171 (wF tot Ah nh ch Af nf cf 0 0)) (hrh:Rd w Ah (eB hs)) (hrf:Rd w Af (fl.map bv)) (hAh:eB hs≠ []→ ∀ a,Ah=some a→a.block≠R) (hAf:fl.map bv≠ []→ ∀ a,Af=some a→a.block≠R) (hT:∀ w',Fr (fun j=>j=R) w w'→fW w'):
  Calls prog 70 #[.pointer (some ⟨R,0,none⟩)] w (Pk tot Ah nh ch Af nf cf R w (nW tot fl hs (xT tot) 0 0 0)):=by
 obtain⟨ans,hans⟩:=Nm (nW tot fl hs (xT tot) 0 0 0)
 rw[← hans]
 have hz:=eK
 rw[show List.replicate 32 (0:UInt8)=bV from rfl] at hz
 obtain⟨W,hW⟩:=Nm (w.alloc (.cells (bV.map bv).toArray 35))
 obtain⟨G,hG⟩:=Nm (w.heap.size)
 have bW:Below w.heap.size w W:=by rw[hW];exact(Below.refl _ _).alloc LR _
 have aG:Av W G 35 (bV.map bv):=by rw[hW,hG];exact Av.new _ _ _
 have aR:=hA.b bW
 have c0:=aR.cell 0 _ rfl
 have HHt:Calls prog 102 #[.int .i64 (tot:Int)] W fun e w'=>e= .returned (.int .i64 ((xT tot:Nat):Int))∧w'=W:=by
  obtain⟨q1,q2,q3⟩:=xU tot ht
  exact OP tot (xT tot) q1 (fun j hj=>by rw[qW tot j ht OM];have:=q2 j hj;omega) (by rw[qW tot _ ht q1];omega) W
 obtain⟨H0,hH0⟩:=Nm (xT tot)
 rw[← hH0] at HHt hans
 replace hW:=Hy hW
 replace hG:=Hy hG
 replace hH0:=Hy hH0
 replace hans:=Hy hans
 replace HHt:=Hy HHt
 replace hnh:=Hy hnh
 replace hnf:=Hy hnf
 replace hT:=Hy hT
 replace hAh:=Hy hAh
 replace hAf:=Hy hAf
 go_enter func70,ntmps70
 go_upto_region 1 with fail
 rw[← hW.out,← hG.out]
 obtain⟨B,hB⟩:=Nm (w.heap.size)
 obtain⟨X,hX⟩:=Nm (W.heap.size)
 have hX0:Hid (w.heap.size≤X):=Hy (by rw[hX];exact bW.size)
 replace hX:=Hy hX
 replace hB:=Hy hB
 refine BU 0 1 (Sv fl hs tot Ah nh ch Af nf cf R G X B w ans) (Sw fl hs tot Ah nh ch Af nf cf R G X B w ans) rfl rfl ?pass1 ?pass0 ?first
 case pass1=>
  have hA0:R<w.heap.size:=hA.lt
  clear HHt aG aR c0 hans hA
  intro m a w1 hJ
  obtain⟨d,k,h,i,v7,v8,sk,l,x,Hh,hS,hW1,ok,okl,aH,bH,nHG,x32,hd,hlk,hk,hsd,rfl,hun⟩:=hJ
  obtain⟨fr,aR1,aG1,aX1,o7,o8⟩:=hW1
  obtain⟨f,⟨e0,e2,e5,e6,e7,e8,e11,-⟩,rfl⟩:=hS.frame
  dsimp only at e0 e2 e5 e6 e7 e8 e11
  rw[show (List.range 114).map f= [f 0,f 1,f 2,f 3,f 4,f 5,f 6,f 7,f 8,f 9,f 10,f 11,f 12,f 13,f 14,f 15,f 16,f 17,f 18,f 19,f 20,f 21,f 22,f 23,f 24,f 25,f 26,f 27,f 28,f 29,f 30,f 31,f 32,f 33,f 34,f 35,f 36,f 37,f 38,f 39,f 40,f 41,f 42,f 43,f 44,f 45,f 46,f 47,f 48,f 49,f 50,f 51,f 52,f 53,f 54,f 55,f 56,f 57,f 58,f 59,f 60,f 61,f 62,f 63,f 64,f 65,f 66,f 67,f 68,f 69,f 70,f 71,f 72,f 73,f 74,f 75,f 76,f 77,f 78,f 79,f 80,f 81,f 82,f 83,f 84,f 85,f 86,f 87,f 88,f 89,f 90,f 91,f 92,f 93,f 94,f 95,f 96,f 97,f 98,f 99,f 100,f 101,f 102,f 103,f 104,f 105,f 106,f 107,f 108,f 109,f 110,f 111,f 112,f 113] from rfl,e0,e2,e5,e6,e7,e8,e11]
  clear e0 e2 e5 e6 e7 e8 e11
  generalize f 1=u1
  generalize f 3=u3
  generalize f 4=u4
  generalize f 9=u9
  generalize f 10=u10
  refine Xm105 ?_;intro u12 u13 u14 u15 u16 u17 u18 u19 u20 u21 u22 u23 u24 u25 u26 u27 u28 u29 u30 u31 u32 u33
  generalize f 34=u34
  generalize f 35=u35
  generalize f 36=u36
  generalize f 37=u37
  generalize f 38=u38
  generalize f 39=u39
  generalize f 40=u40
  generalize f 41=u41
  generalize f 42=u42
  generalize f 43=u43
  generalize f 44=u44
  generalize f 45=u45
  generalize f 46=u46
  generalize f 47=u47
  generalize f 48=u48
  generalize f 49=u49
  generalize f 50=u50
  generalize f 51=u51
  generalize f 52=u52
  generalize f 53=u53
  generalize f 54=u54
  generalize f 55=u55
  generalize f 56=u56
  generalize f 57=u57
  generalize f 58=u58
  generalize f 59=u59
  generalize f 60=u60
  generalize f 61=u61
  generalize f 62=u62
  generalize f 63=u63
  generalize f 64=u64
  generalize f 65=u65
  generalize f 66=u66
  generalize f 67=u67
  generalize f 68=u68
  generalize f 69=u69
  generalize f 70=u70
  generalize f 71=u71
  generalize f 72=u72
  generalize f 73=u73
  generalize f 74=u74
  generalize f 75=u75
  generalize f 76=u76
  generalize f 77=u77
  generalize f 78=u78
  generalize f 79=u79
  generalize f 80=u80
  generalize f 81=u81
  generalize f 82=u82
  generalize f 83=u83
  generalize f 84=u84
  generalize f 85=u85
  generalize f 86=u86
  generalize f 87=u87
  generalize f 88=u88
  generalize f 89=u89
  generalize f 90=u90
  generalize f 91=u91
  generalize f 92=u92
  generalize f 93=u93
  generalize f 94=u94
  generalize f 95=u95
  generalize f 96=u96
  generalize f 97=u97
  generalize f 98=u98
  generalize f 99=u99
  generalize f 100=u100
  generalize f 101=u101
  generalize f 102=u102
  generalize f 103=u103
  generalize f 104=u104
  generalize f 105=u105
  generalize f 106=u106
  generalize f 107=u107
  generalize f 108=u108
  generalize f 109=u109
  generalize f 110=u110
  generalize f 111=u111
  generalize f 112=u112
  generalize f 113=u113
  clear hS f
  have hx32:(x.map bv).length=32:=by rw[List.length_map,x32]
  have hxone:(x.map bv).all (·.oneCell')=true:=List.all_eq_true.2 (dB x)
  have hGw:w.heap.size≤G:=by rw[hG.out];exact Nat.le_refl _
  obtain⟨A8,c8,rfl,hc8,_⟩:=cM o8
  replace hx32:=Hy hx32
  replace hxone:=Hy hxone
  replace x32:=Hy x32
  replace hun:=Hy hun
  rcases Fb sk with rfl|⟨sk,f,rfl⟩
  ·obtain⟨A7,c7,rfl,hc7,_⟩:=cM o7
   rw[List.length_nil]
   have r8:=fV o8
   obtain⟨nl,hnl⟩:=Nm (l.length)
   rw[← hnl] at hc8 ⊢
   replace hnl:=Hy hnl
   go_wp2_with (first
    |((with_reducible refine LF aH 32 hx32.out SS ?_ ?_);rfl)
    |((with_reducible refine SF (Below.refl G w1) aG1 LR (x.map bv) 32 ?_ ?_ ?_ (hn:=hx32.out) (h1:=hxone.out));rfl;rfl;intro w2 a2 b2 k2 z2))
   refine rP ?_
   have f2:=Fr.ofStore b2 k2 z2
   refine bodyPost_ret (v:=.tuple #[.agg (cK x),.slice A8 nl c8,.bool true]) ((cC (C:=x.map bv) bM bM a2 _ SS rfl 32 hx32.out KR).trans bM) bM ?_
   refine⟨Fr.transNew fr f2 (fun j h=>.inr (by rw[h];exact hGw)),?_⟩
   rw[← hun.out,List.reverse_nil,MK]
   refine⟨A8,c8,by rw[hnl.out],by rw[← hnl.out];exact hc8,(fun a e=>by have:=(World.ownsRow.lt o8 a.block (by rw[e];rfl)).1;rw[hB.out] at this;exact this),f2.rd r8 (fun a e=>?_),f2.av aR1 (fun h=>?_)⟩
   ·intro h
    exact eM o8 aG1 DC (by rw[← h];subst e;rfl)
   ·exact Av.ne aR1 aG1 DC h
  ·have hlen:(sk++ [f]).length=sk.length+1:=by rw[List.length_append];rfl
   rw[hlen] at o7
   obtain⟨g,c7,rest,rfl,hBg,hc7,hc7m,av7,hl7⟩:=Ky o7 OM
   obtain⟨fh,fi,fa⟩:=f
   have okf:=ok _ (List.mem_append_right _ (List.mem_singleton.2 rfl))
   have oks:∀ f ∈ sk,f.ok:=fun f h=>ok f (List.mem_append_left _ h)
   have hskl:=BS oks
   have hav7:Av w1 g 214 (BR sk++(xY ⟨fh,fi,fa⟩++rest)):=by rw[← List.append_assoc,uD];exact av7
   obtain⟨n,hn⟩:=Nm (sk.length)
   rw[← hn] at hskl hc7 o7 ⊢
   have cat:∀ j u,(xY ⟨fh,fi,fa⟩)[j]? =some u→w1.cell? ⟨g,n*35+j,none⟩=some u:=fun j u hj=>by
    have hjl:j<(xY ⟨fh,fi,fa⟩).length:=(List.getElem?_eq_some_iff.1 hj).1
    refine hav7.cell (n*35+j) u ?_
    rw[List.getElem?_append_right OM,hskl,Nat.add_sub_cancel_left,List.getElem?_append_left hjl]
    exact hj
   have n0:((n:Int)+1==0)=false:=by simp;omega
   have nb:n≤80000:=by rw[hlen] at hsd;omega
   have n1:(n:Int)≤(c7:Int):=by omega
   have hRw:R<w.heap.size:=hA0
   have hgw:w.heap.size≤g:=by rw[← hB.out];exact hBg
   have hHw:w.heap.size≤Hh:=by rw[← hB.out];exact bH
   have hgH:g≠Hh:=Av.ne av7 aH DC
   have hgG:g≠G:=Av.ne av7 aG1 DC
   have hgR:g≠R:=Av.ne av7 aR1 DC
   have hgX:g≠X:=Av.ne av7 aX1 DC
   have hHR:Hh≠R:=Av.ne aH aR1 DC
   have hHX:Hh≠X:=Av.ne aH aX1 DC
   have hGR:G≠R:=Av.ne aG1 aR1 DC
   have hGX:G≠X:=Av.ne aG1 aX1 DC
   have hRX:R≠X:=Av.ne aR1 aX1 DC
   have o8H:=eM o8 aH DC
   have o8g:=eM o8 av7 DC
   have o8G:=eM o8 aG1 DC
   have rx:w1.rangeAt Hh 0 (x.map bv):=fun j u hj=>by rw[Nat.zero_add];exact aH.cell j u hj
   rw[List.reverse_append] at hun
   change Hid (Cp tot fl hs (⟨fh,fi,fa⟩ :: sk.reverse) x l d k=ans) at hun
   have hsk2:sk.length≤d:=by rw[hlen] at hsd;omega
   have pop:∀ (w':World) (rest':List Value),Av w' g 214 (BR sk++rest')→(BR sk++rest').length=c7*35→w'.ownsRow B 214 35 (.slice (some ⟨g,0,none⟩) n c7) sk.length (BR sk):=fun w' rest' h1 h2=>by
    rw[← hn]
    exact AE hBg OM hc7m h1 h2 hskl
   have hl7':(BR sk++(xY ⟨fh,fi,fa⟩++rest)).length=c7*35:=by rw[← hl7,← uD];simp
   replace hn:=Hy hn
   replace hlen:=Hy hlen
   replace pop:=Hy pop
   replace o8H:=Hy o8H
   replace o8g:=Hy o8g
   replace o8G:=Hy o8G
   replace rx:=Hy rx
   replace hl7:=Hy hl7
   replace hl7':=Hy hl7'
   replace hskl:=Hy hskl
   clear o7 av7
   cases fa with
   |some a=>
    have a32:a.length=32:=okf.1 a rfl
    have k2:=cat 2 (.bool true) (by simp[xY])
    have ra:w1.rangeAt g (n*35+3) (a.map bv):=Av.rangeAt (pre:=BR sk++ [.int .i64 (fh:Int),.int .i64 (fi:Int),.bool true]) (rest:=rest) (by simpa [xY] using hav7) _ (by simp[hskl.out])
    have ha32:(a.map bv).length=32:=by rw[List.length_map,a32]
    have EQ:=fun p q w=>Kz a x a32 x32.out p q w
    obtain⟨b,hb⟩:=Nm ((a==x))
    rw[← hb] at EQ
    replace hb:=Hy hb
    replace cat:=Hy cat
    replace ra:=Hy ra
    replace a32:=Hy a32
    replace ha32:=Hy ha32
    replace EQ:=Hy EQ
    go_upto_region 20 with fail
    clear k2
    refine ZR ?_
    repeat first|refine ZQ ?_|refine ZP (c:=.agg (cK a)) (fun w hw=>bJ _ _ rfl g (n*35+3) rfl (a.map bv) _ (fun j u hj=>(World.cell?_of_block (a:=⟨g,n*35+3+j,none⟩) (hw.drew.block g hav7.lt)).trans (ra.out j u hj)) SS rfl (by rw[ha32.out];kernel_rfl)) ?_|refine ZP (c:=.agg (cK x)) (fun w hw=>aE (aH.b hw.drew) _ _ rfl rfl _ 32 hx32.out SS rfl KR) ?_
    refine jN cI.refl rfl rfl rfl rfl _ _ _ _ _ rfl pB pB (c:=.bool b) (fun w=>EQ.out _ _ w) zZ ?_
    refine bO fun w2 hw2=>aF ?_
    have b2:=hw2.drew
    have aR2:=aR1.b b2
    have aG2:=aG1.b b2
    have aX2:=aX1.b b2
    have aH2:=aH.b b2
    have av2:=hav7.b b2
    have o82:=aJ o8 b2
    have fr2:=fr.trans (Below.fr b2)
    replace ra:=Hy (fun j u hj=>(World.cell?_of_block (a:=⟨g,n*35+3+j,none⟩) (b2.block g hav7.lt)).trans (ra.out j u hj))
    clear o8 hav7 aH aR1 aG1 aX1 rx cat b2
    cases b
    rotate_left
    ·obtain rfl:a=x:=by have:=hb.out;simpa using this.symm
     have hzone:(bV.map bv).all (·.oneCell')=true:=rfl
     replace hzone:=Hy hzone
     go_wp2_with (first
      |((with_reducible refine wpList_build (.agg (bV.map bv).toArray) ?_ ?_);(go_simp;first|done|rfl))
      |((with_reducible refine SF (Below.refl G w2) aG2 LR (bV.map bv) 32 ?_ ?_ ?_ (h1:=hzone.out));rfl;rfl;intro w3 a3 b3 k3 z3))
     refine rP ?_
     have f3:=Fr.ofStore b3 k3 z3
     refine bodyPost_ret (v:=.tuple #[.agg (cK bV),.slice none 0 0,.bool false]) ((cC (C:=bV.map bv) bM bM a3 _ SS rfl 32 rfl KR).trans bM) bM ?_
     refine⟨Fr.transNew fr2 f3 (fun j h=>.inr (by rw[h];exact hGw)),?_⟩
     rw[← hun.out,Hu]
     exact⟨rfl,d,k,f3.av aR2 (Ne.symm hGR)⟩
    ·have hax:a≠x:=by have:=hb.out;simpa using this.symm
     have hp32:=iZ a x
     have HPr:=fun w' t=>Qo a x a32.out x32.out w' t
     have hun2:Cp tot fl hs sk.reverse (gZ a x) l d k=ans:=by rw[← Hv hax];exact hun.out
     obtain⟨y,hy⟩:=Nm (gZ a x)
     rw[← hy] at hp32 HPr hun2
     have hy32:(y.map bv).length=32:=by rw[List.length_map,hp32]
     have hyone:(y.map bv).all (·.oneCell')=true:=List.all_eq_true.2 (dB y)
     clear hun
     replace hun2:=Hy hun2
     replace hax:=Hy hax
     replace hy:=Hy hy
     replace hy32:=Hy hy32
     replace hyone:=Hy hyone
     replace hp32:=Hy hp32
     replace HPr:=Hy HPr
     go_upto_region 22 with fail
     refine bL 6 [] cI KR KR KR KR KR cI.refl cI.trans zI ?_
     repeat first|refine ZQ ?_|refine ZP (c:=.agg (cK a)) (fun w hw=>bJ _ _ rfl g (n*35+3) rfl (a.map bv) _ (fun j u hj=>(World.cell?_of_block (a:=⟨g,n*35+3+j,none⟩) (hw.drew.block g av2.lt)).trans (ra.out j u hj)) SS rfl (by rw[ha32.out];kernel_rfl)) ?_|refine ZP (c:=.agg (cK x)) (fun w hw=>aE (aH2.b hw.drew) _ _ rfl rfl _ 32 hx32.out SS rfl KR) ?_
     refine ZC (c:=.agg (cK y)) 106 #[.agg (cK a),.agg (cK x)] (fun w hw=>(HPr.out w (hT.out w (fr2.trans (Below.fr hw.drew)))).mono (by rintro e w' ⟨rfl,hb⟩;exact⟨rfl,hb⟩)) ?_
     refine bO fun w3 hw3=>aF ?_
     simp only[List.drop_succ_cons,List.drop_zero]
     have b3:=hw3.drew
     have aR3:=aR2.b b3
     have aG3:=aG2.b b3
     have aX3:=aX2.b b3
     have aH3:=aH2.b b3
     have av3:=av2.b b3
     have o83:=aJ o82 b3
     have fr3:=fr2.trans (Below.fr b3)
     clear aR2 aG2 aX2 av2 o82 fr2 aH2 hw3 b3 ra
     go_wp2_with ((with_reducible refine SF (Below.refl Hh w3) aH3 LR (y.map bv) 32 ?_ ?_ ?_ (hn:=hy32.out) (ho:=hx32.out) (h1:=hyone.out));rfl;rfl;intro w4 aH4 b4 k4 z4)
     have f4:=Fr.ofStore b4 k4 z4
     go_step3
     refine pT ?_
     refine⟨sX nf d sk+1,?_,.inr ⟨rfl,d,k,h,i,.slice (some ⟨g,0,none⟩) n c7,.slice A8 l.length c8,sk,l,y,Hh,⟨rfl,rfl,rfl,rfl,rfl,rfl,rfl,rfl,rfl,trivial⟩,
      ⟨Fr.transNew fr3 f4 (fun j h=>.inr (by rw[h];exact hHw)),f4.av aR3 (Ne.symm hHR),f4.av aG3 (Ne.symm nHG),f4.av aX3 (Ne.symm hHX),pop.out _ _ (f4.av av3 hgH) hl7'.out,bU o83 f4 (fun k e h=>o8H.out (by rw[e,h]))⟩,
      oks,okl,aH4,bH,nHG,hp32.out,hd,hlk,hk,hsk2,rfl,hun2.out⟩⟩
     simp[sX]
   |none=>
    obtain⟨h',rfl⟩:∃ h',fh=h'+1:=⟨fh - 1,by have:=okf.2.1;dsimp only at this;omega⟩
    have hh':h'+1≤12:=okf.2.2.1
    have hfi:fi≤4096:=okf.2.2.2
    have k2:=cat 2 (.bool false) (by simp[xY])
    have rn:w1.rangeAt g (n*35) (sG ((h':Int)+1) (fi:Int)):=Av.rangeAt (pre:=BR sk) (rest:=[.bool false]++(bV.map bv++rest)) (by simpa [xY,sG] using hav7) _ hskl.out
    have HRt:=fun w'=>Pj tot h' fi ht OM OM w'
    obtain⟨b,hb⟩:=Nm (decide (2*fi+1<mN tot h'))
    rw[← hb] at HRt
    replace hb:=Hy hb
    replace HRt:=Hy HRt
    replace cat:=Hy cat
    go_upto_region 24 with (first
     |((with_reducible refine LM rn Ts ?_ ?_);rfl)
     |(go_at_call 107;refine(HRt.out w1).mono ?_;rintro e w2 ⟨rfl,b2⟩)
     |((with_reducible refine SN (sG (h':Int) (2*(fi:Int)+1)) 2 ?_ ?_ ?_);rfl;rfl;intro w3 aY b3 k3 z3;clear k3;replace z3:=Hy z3))
    obtain⟨Y,hY⟩:=Nm (w2.heap.size)
    rw[← hY] at aY ⊢
    have b23:=b2.trans (b3.mono b2.size)
    have hYw:w1.heap.size≤Y:=by rw[hY];exact b2.size
    replace hY:=Hy hY
    have aR3:=aR1.b b23
    have aG3:=aG1.b b23
    have aX3:=aX1.b b23
    have aH3:=aH.b b23
    have av3:=hav7.b b23
    have o83:=aJ o8 b23
    have fr3:=fr.trans (Below.fr b23)
    have hgY:g≠Y:=by have:=hav7.lt;omega
    have hHY:Hh≠Y:=by have:=aH.lt;omega
    have hXY:X≠Y:=by have:=aX1.lt;omega
    clear o8 hav7 aH aR1 aG1 aX1 rx cat b23 b2 b3 rn k2 fr
    cases b
    ·have hnw:¬ 2*fi+1<mN tot h':=by have:=hb.out;simpa using this.symm
     have hp32:=iZ x x
     have HPr:=fun w' t=>Qo x x x32.out x32.out w' t
     have hun2:Cp tot fl hs sk.reverse (gZ x x) l d k=ans:=by rw[← ML (h:=h'+1) (i:=fi) hnw];exact hun.out
     obtain⟨y,hy⟩:=Nm (gZ x x)
     rw[← hy] at hp32 HPr hun2
     have hy32:(y.map bv).length=32:=by rw[List.length_map,hp32]
     have hyone:(y.map bv).all (·.oneCell')=true:=List.all_eq_true.2 (dB y)
     clear hun hnw
     replace hun2:=Hy hun2
     replace hy:=Hy hy
     replace hy32:=Hy hy32
     replace hyone:=Hy hyone
     replace hp32:=Hy hp32
     have HP2:=Hy (HPr w3 (hT.out w3 fr3))
     clear HPr
     go_wp2_with (first
      |((with_reducible refine LF aH3 32 hx32.out SS ?_ ?_);rfl)
      |(go_at_call 106;refine(HP2.out).mono ?_;rintro e w4 ⟨rfl,b4⟩)
      |((with_reducible refine SF (Below.refl Hh w4) (aH3.b b4) LR (y.map bv) 32 ?_ ?_ ?_ (hn:=hy32.out) (ho:=hx32.out) (h1:=hyone.out));rfl;rfl;intro w5 aH5 b5 k5 z5))
     have f5:=Fr.ofStore b5 k5 z5
     go_step3
     refine pT ?_
     refine⟨sX nf d sk+1,?_,.inr ⟨rfl,d,k,h,i,.slice (some ⟨g,0,none⟩) n c7,.slice A8 l.length c8,sk,l,y,Hh,⟨rfl,rfl,rfl,rfl,rfl,rfl,rfl,rfl,rfl,trivial⟩,
      ⟨Fr.transNew (fr3.trans (Below.fr b4)) f5 (fun j h=>.inr (by rw[h];exact hHw)),f5.av (aR3.b b4) (Ne.symm hHR),f5.av (aG3.b b4) (Ne.symm nHG),f5.av (aX3.b b4) (Ne.symm hHX),pop.out _ _ (f5.av (av3.b b4) hgH) hl7'.out,bU (aJ o83 b4) f5 (fun k e h=>o8H.out (by rw[e,h]))⟩,
      oks,okl,aH5,bH,nHG,hp32.out,hd,hlk,hk,hsk2,rfl,hun2.out⟩⟩
     simp[sX]
    ·have hnw:2*fi+1<mN tot h':=by have:=hb.out;simpa using this.symm
     have hun2:mD tot fl hs (⟨h'+1,fi,some x⟩ :: sk.reverse) h' (2*fi+1) l d k=ans:=(Hw (h:=h'+1) (i:=fi) hnw).symm.trans hun.out
     replace hun2:=Hy hun2
     have hpre:BR sk++ [.int .i64 (((h'+1:Nat):Int)),.int .i64 (fi:Int),.bool false]++bV.map bv++rest=BR sk++(xY ⟨h'+1,fi,none⟩++rest):=by simp[xY]
     have hprel:(BR sk++ [Value.int .i64 (((h'+1:Nat):Int)),.int .i64 (fi:Int),.bool false]).length=n*35+3:=by simp[hskl.out]
     have av3':Av w3 g 214 (BR sk++ [.int .i64 (((h'+1:Nat):Int)),.int .i64 (fi:Int),.bool false]++bV.map bv++rest):=by rw[hpre];exact av3
     have rgz:=Av.rangeAt av3' (n*35+3) hprel
     have hth:w3.there g (n*35+3) (x.map bv).length:=fun j hj=>⟨by
      obtain⟨u,hu⟩:∃ u,(bV.map bv)[j]? =some u:=⟨_,List.getElem?_eq_getElem (by rw[List.length_map,Kt];rwa [hx32.out] at hj)⟩
      rw[rgz j u hu];rfl,frozen_of_row w3 g (n*35+3+j) _ 214 av3⟩
     have av4:=Av.setCells (x.map bv) _ _ rest (n*35+3) w3 av3' hprel (by rw[hx32.out];rfl)
     have f4:Fr (fun j=>j=g) w3 (w3.setCells g (n*35+3) (x.map bv)):=⟨(eD (x.map bv) w3 g (n*35+3) (Below.refl g w3) LR).os,(eD (x.map bv) w3 g (n*35+3) (Below.refl g w3) LR).tape,(eD (x.map bv) w3 g (n*35+3) (Below.refl g w3) LR).output,(eD (x.map bv) w3 g (n*35+3) (Below.refl g w3) LR).size,fun j _ hj=>jF (x.map bv) w3 g (n*35+3) j hj⟩
     have aH4:=f4.av aH3 (Ne.symm hgH)
     have hth2:=Hy hth
     clear hth rgz av3' hpre hun
     obtain⟨w4,hw4⟩:=Nm (w3.setCells g (n*35+3) (x.map bv))
     rw[← hw4] at av4 f4 aH4
     have hset:(BR sk++ [Value.int .i64 (((h'+1:Nat):Int)),.int .i64 (fi:Int),.bool false]++x.map bv++rest).set (n*35+2) (.bool true)=BR (sk++ [⟨h'+1,fi,some x⟩])++rest:=by
      rw[List.append_assoc,List.append_assoc,List.set_append_right _ _ (by rw[hskl.out];omega),hskl.out,Nat.add_sub_cancel_left,← uD,List.append_assoc]
      simp[xY]
     have c4:w4.cell? ⟨g,n*35+2,none⟩=some (.bool false):=av4.cell (n*35+2) _ (by
      rw[List.append_assoc,List.append_assoc,List.getElem?_append_right (by rw[hskl.out];omega),hskl.out,Nat.add_sub_cancel_left]
      rfl)
     have z4:w4.frozen? ⟨g,n*35+2,none⟩=false:=frozen_of_row _ _ (n*35+2) _ _ av4
     have av5:=av4.set (n*35+2) (.bool true)
     have f5:=Fr.setCell w4 ⟨g,n*35+2,none⟩ (.bool true)
     rw[hset] at av5
     replace hset:=Hy hset
     replace hprel:=Hy hprel
     replace av5:=Hy av5
     replace f5:=Hy f5
     replace av4:=Hy av4
     replace hw4:=Hy hw4
     go_upto_region 26 with (first
      |((with_reducible refine LF aH3 32 hx32.out SS ?_ ?_);rfl)
      |((with_reducible refine xZ 35 (x.map bv) hth2.out ?_ ?_ ?_ ?_ ?_);rfl;rfl;(rw[hx32.out];kernel_rfl);exact hxone.out;rw[← hw4.out]))
     obtain⟨w5,hw5⟩:=Nm (w4.setCell ⟨g,n*35+2,none⟩ (.bool true))
     rw[← hw5] at av5 f5 ⊢
     replace hw5:=Hy hw5
     have f45:Fr (fun j=>j=g) w3 w5:=f4.trans f5.out
     have aR5:=f45.av aR3 (Ne.symm hgR)
     have aG5:=f45.av aG3 (Ne.symm hgG)
     have aX5:=f45.av aX3 (Ne.symm hgX)
     have aY5:=f45.av aY (Ne.symm hgY)
     have o85:=bU o83 f45 (fun k e h=>o8g.out (by rw[e,h]))
     have fr5:=Fr.transNew fr3 f45 (fun j h=>.inr (by rw[h];exact hgw))
     have o8X:=Hy (eM o85 aX5 DC)
     have hXw:w.heap.size≤X:=hX0.out
     clear aR3 aG3 aX3 aY av3 o83 f4 f5 f45 aH3 aH4 c4 z4 av4 fr3 hth2
     go_wp2_with (first
      |((with_reducible refine LH aY5 2 Ts ?_ ?_);rfl)
      |((with_reducible refine SF (Below.refl X w5) aX5 LR (sG (h':Int) (2*(fi:Int)+1)) 2 ?_ ?_ ?_);rfl;rfl;intro w6 aX6 b6 k6 z6))
     have f6:=Fr.ofStore b6 k6 z6
     go_step3
     go_frame
     refine AG (pT ?_)
     have hl8:(sk++ [(⟨h'+1,fi,some x⟩:xX)]).length=n+1:=by rw[List.length_append,← hn.out];rfl
     have ok8:∀ f ∈ sk++ [(⟨h'+1,fi,some x⟩:xX)],f.ok:=by
      intro f hf
      rcases List.mem_append.1 hf with hf|hf
      ·exact oks f hf
      ·rw[List.mem_singleton.1 hf]
       exact⟨fun a ha=>by cases ha;exact x32.out,by dsimp only;omega,hh',hfi⟩
     have o76:w6.ownsRow B 214 35 (.slice (some ⟨g,0,none⟩) (n+1) c7) (sk++ [(⟨h'+1,fi,some x⟩:xX)]).length (BR (sk++ [⟨h'+1,fi,some x⟩])):=by
      rw[hl8]
      refine AE (rest:=rest) hBg hc7 hc7m (f6.av av5.out hgX) ?_ (by rw[BS ok8,hl8])
      have:=hl7'.out
      simp only[List.length_append,BS ok8,hl8,hskl.out,BP okf] at this ⊢
      omega
     refine⟨sX nf d (sk++ [⟨h'+1,fi,some x⟩]),?_,.inl ⟨rfl,d,k,h',2*fi+1,.slice (some ⟨g,0,none⟩) (n+1) c7,.slice A8 l.length c8,sk++ [⟨h'+1,fi,some x⟩],l,?_,?_,ok8,okl,by omega,hnw,hd,hlk,hk,?_,rfl,?_⟩⟩
     ·simp[sX]
      omega
     ·exact⟨rfl,rfl,rfl,rfl,rfl,rfl,rfl,rfl,trivial⟩
     ·refine⟨Fr.transNew fr5 f6 (fun j h=>.inr (by rw[h];exact hXw)),f6.av aR5 hRX,f6.av aG5 hGX,?_,o76,bU o85 f6 (fun k e h=>o8X.out (by rw[e,h]))⟩
      rw[show (((2*fi+1:Nat):Int))=2*(fi:Int)+1 by omega]
      exact aX6
     ·rw[hl8,hn.out]
      rw[hlen.out] at hsd
      exact hsd
     ·rw[List.reverse_append]
      exact hun2.out
 case pass0=>
  intro key1
  have hA0:R<w.heap.size:=hA.lt
  clear HHt aG aR c0 hans hA
  intro m a w1 hJ
  obtain⟨d,k,h,i,v7,v8,sk,l,hS,hW1,ok,okl,hh,hi,hd,hlk,hk,hsd,rfl,hun⟩:=hJ
  obtain⟨fr,aR1,aG1,aX1,o7,o8⟩:=hW1
  obtain⟨f,⟨e0,e2,e5,e6,e7,e8,-⟩,rfl⟩:=hS.frame
  dsimp only at e0 e2 e5 e6 e7 e8
  rw[show (List.range 114).map f= [f 0,f 1,f 2,f 3,f 4,f 5,f 6,f 7,f 8,f 9,f 10,f 11,f 12,f 13,f 14,f 15,f 16,f 17,f 18,f 19,f 20,f 21,f 22,f 23,f 24,f 25,f 26,f 27,f 28,f 29,f 30,f 31,f 32,f 33,f 34,f 35,f 36,f 37,f 38,f 39,f 40,f 41,f 42,f 43,f 44,f 45,f 46,f 47,f 48,f 49,f 50,f 51,f 52,f 53,f 54,f 55,f 56,f 57,f 58,f 59,f 60,f 61,f 62,f 63,f 64,f 65,f 66,f 67,f 68,f 69,f 70,f 71,f 72,f 73,f 74,f 75,f 76,f 77,f 78,f 79,f 80,f 81,f 82,f 83,f 84,f 85,f 86,f 87,f 88,f 89,f 90,f 91,f 92,f 93,f 94,f 95,f 96,f 97,f 98,f 99,f 100,f 101,f 102,f 103,f 104,f 105,f 106,f 107,f 108,f 109,f 110,f 111,f 112,f 113] from rfl,e0,e2,e5,e6,e7,e8]
  clear e0 e2 e5 e6 e7 e8
  generalize f 1=u1
  generalize f 3=u3
  generalize f 4=u4
  generalize f 9=u9
  generalize f 10=u10
  generalize f 11=u11
  refine Xm105 ?_;intro u12 u13 u14 u15 u16 u17 u18 u19 u20 u21 u22 u23 u24 u25 u26 u27 u28 u29 u30 u31 u32 u33
  generalize f 34=u34
  generalize f 35=u35
  generalize f 36=u36
  generalize f 37=u37
  generalize f 38=u38
  generalize f 39=u39
  generalize f 40=u40
  generalize f 41=u41
  generalize f 42=u42
  generalize f 43=u43
  generalize f 44=u44
  generalize f 45=u45
  generalize f 46=u46
  generalize f 47=u47
  generalize f 48=u48
  generalize f 49=u49
  generalize f 50=u50
  generalize f 51=u51
  generalize f 52=u52
  generalize f 53=u53
  generalize f 54=u54
  generalize f 55=u55
  generalize f 56=u56
  generalize f 57=u57
  generalize f 58=u58
  generalize f 59=u59
  generalize f 60=u60
  generalize f 61=u61
  generalize f 62=u62
  generalize f 63=u63
  generalize f 64=u64
  generalize f 65=u65
  generalize f 66=u66
  generalize f 67=u67
  generalize f 68=u68
  generalize f 69=u69
  generalize f 70=u70
  generalize f 71=u71
  generalize f 72=u72
  generalize f 73=u73
  generalize f 74=u74
  generalize f 75=u75
  generalize f 76=u76
  generalize f 77=u77
  generalize f 78=u78
  generalize f 79=u79
  generalize f 80=u80
  generalize f 81=u81
  generalize f 82=u82
  generalize f 83=u83
  generalize f 84=u84
  generalize f 85=u85
  generalize f 86=u86
  generalize f 87=u87
  generalize f 88=u88
  generalize f 89=u89
  generalize f 90=u90
  generalize f 91=u91
  generalize f 92=u92
  generalize f 93=u93
  generalize f 94=u94
  generalize f 95=u95
  generalize f 96=u96
  generalize f 97=u97
  generalize f 98=u98
  generalize f 99=u99
  generalize f 100=u100
  generalize f 101=u101
  generalize f 102=u102
  generalize f 103=u103
  generalize f 104=u104
  generalize f 105=u105
  generalize f 106=u106
  generalize f 107=u107
  generalize f 108=u108
  generalize f 109=u109
  generalize f 110=u110
  generalize f 111=u111
  generalize f 112=u112
  generalize f 113=u113
  clear hS f
  have hzone:(bV.map bv).all (·.oneCell')=true:=rfl
  have hGw:w.heap.size≤G:=by rw[hG.out];exact Nat.le_refl _
  have hGR:G≠R:=Av.ne aG1 aR1 DC
  have hGX:G≠X:=Av.ne aG1 aX1 DC
  have hRX:R≠X:=Av.ne aR1 aX1 DC
  have o7R:=eM o7 aR1 DC
  have o8R:=eM o8 aR1 DC
  have rf1:=fr.rdE hrf hAf.out
  have rh1:=fr.rdE hrh hAh.out
  have hi4:i≤4096:=Nat.le_trans (Nat.le_of_lt hi) (Nat.le_trans (Fa tot h ht0) ht)
  have hd9:d≤80000:=by omega
  replace hi:=Hy hi
  replace hzone:=Hy hzone
  replace hun:=Hy hun
  replace o7R:=Hy o7R
  replace o8R:=Hy o8R
  cases hdg:fX fl d with
  |none=>
   have hd8:8*nf≤d:=by
    apply Decidable.byContradiction
    intro hc
    rw[nF (by rw[hnf.out];omega)] at hdg
    cases hdg
   have HD:=Dq tot Ah nh ch Af nf cf d k R hd8 OM w1 aR1
   replace hdg:=Hy hdg
   replace HD:=Hy HD
   clear o7 o8
   go_upto_region 6 with (go_at_call 103;refine(HD.out).mono ?_;rintro e w2 ⟨rfl,rfl⟩)
   go_wp2_with (first
    |((with_reducible refine SF (Below.refl G w2) aG1 LR (bV.map bv) 32 ?_ ?_ ?_ (h1:=hzone.out));rfl;rfl;intro w9 a9 b9 k9 z9))
   refine rP ?_
   have f9:=Fr.ofStore b9 k9 z9
   refine bodyPost_ret (v:=.tuple #[.agg (cK bV),.slice none 0 0,.bool false]) ((cC (C:=bV.map bv) bM bM a9 _ SS rfl 32 rfl KR).trans bM) bM ?_
   refine⟨Fr.transNew fr f9 (fun j h=>.inr (by rw[h];exact hGw)),?_⟩
   rw[← hun.out,EW hdg.out]
   exact⟨rfl,_,_,f9.av aR1 (Ne.symm hGR)⟩
  |some b=>
   have hd8:d<8*nf:=by have:=dM hdg;rw[hnf.out] at this;exact this
   have HD:=Pi fl b tot Ah nh ch Af nf cf d k R hnf.out hdg OM w1 aR1 rf1 (hAf.out (fun e=>by have:=congrArg List.length e;rw[List.length_map,hnf.out] at this;simp at this;omega))
   replace hdg:=Hy hdg
   replace HD:=Hy HD
   go_upto_region 8 with (go_at_call 103;refine(HD.out).mono ?_;rintro e w2 ⟨rfl,aR2,f2⟩)
   have aG2:=f2.av aG1 hGR
   have aX2:=f2.av aX1 (Ne.symm hRX)
   have o72:=bU o7 f2 (fun k e h=>o7R.out (by rw[e,h]))
   have o82:=bU o8 f2 (fun k e h=>o8R.out (by rw[e,h]))
   have rh2:=(fr.trans f2).rdE hrh hAh.out
   have fr2:=fr.trans f2
   clear o7 o8 aG1 aX1 aR1 f2 fr rf1 rh1 HD
   have hBw:w.heap.size≤B:=by rw[hB.out];exact Nat.le_refl _
   have xh:=aX2.cell 0 _ rfl
   have xi:=aX2.cell 1 _ rfl
   by_cases hgo:b=true∧0<h
   ·obtain⟨rfl,h0⟩:=hgo
    obtain⟨h',eh⟩:∃ h',h=h'+1:=⟨h - 1,by omega⟩
    have hun2:mD tot fl hs (⟨h,i,none⟩ :: sk.reverse) h' (2*i) l (d+1) k=ans:=by
     subst eh
     rw[← Kr hdg.out]
     exact hun.out
    have hi2:2*i<mN tot h':=by
     have:=hi.out
     rw[eh,xQ] at this
     omega
    have okn:(⟨h,i,none⟩:xX).ok:=⟨(fun a e=>by cases e),h0,hh,hi4⟩
    have hl35:=BP okn
    have one35:=MO ⟨h,i,none⟩
    have HL:∀ w',Calls prog 104 #[.agg (sG (h:Int) (i:Int)).toArray] w' fun e w''=>e= .returned (.agg (sG (h':Int) (2*(i:Int))).toArray)∧Below w'.heap.size w' w'':=fun w'=>by
     have:=QE (h:Int) (i:Int) OM OM OM OM w'
     rwa [show (h:Int) - 1=(h':Int) by omega] at this
    have hgt:decide ((0:Int)<(h:Int))=true:=by simp;omega
    obtain⟨n,hn⟩:=Nm (sk.length)
    rw[← hn] at o72
    have nb:n≤80000:=by omega
    have bal:=(Below.refl w2.heap.size w2).alloc LR (.cells (xY ⟨h,i,none⟩).toArray 214)
    have o7b:=aJ o72 bal
    have o8b:=aJ o82 bal
    have aRb:=aR2.b bal
    have aGb:=aG2.b bal
    have aXb:=aX2.b bal
    have frb:=fr2.trans (Below.fr bal)
    have hBb:B≤(w2.alloc (.cells (xY ⟨h,i,none⟩).toArray 214)).heap.size:=by rw[hB.out];exact frb.size
    replace eh:=Hy eh
    replace hun2:=Hy hun2
    replace hi2:=Hy hi2
    replace hl35:=Hy hl35
    replace one35:=Hy one35
    replace HL:=Hy HL
    replace hn:=Hy hn
    replace hBb:=Hy hBb
    clear bal hun
    go_upto_region 10 with (first
     |((with_reducible refine LH aX2 2 Ts ?_ ?_);rfl)
     |((with_reducible refine yA (.agg (xY ⟨h,i,none⟩).toArray) ?_ ?_);kernel_rfl)
     |((with_reducible refine dQ (e:=214) underlying210 Ku Kv ?_ ?_ (xY ⟨h,i,none⟩) hl35.out ?_ ?_);decide;decide;rfl)
     |(at_builtin;refine bT underlying210 Ku Kv DC o7b hBb.out (xY ⟨h,i,none⟩) 1 1 (Av.rd (t:=214) (heap_alloc_new _ _)) (by rw[hl35.out]) one35.out OM OM rfl (.tmp 38) (.tmp 41) rfl rfl rfl ?_;intro v9 w9 o9 gr9 ob9))
    have f9:=Fr.of_grown gr9
    have aR9:=f9.av aRb (fun e=>eM o7b aRb DC e.symm)
    have aG9:=f9.av aGb (fun e=>eM o7b aGb DC e.symm)
    have aX9:=f9.av aXb (fun e=>eM o7b aXb DC e.symm)
    have o89:=bU o8b f9 (fun k e q=>Gr o7b o8b DC k e q.symm)
    have fr9:=Fr.app frb o7b hBw gr9
    clear f9 ob9 gr9 o7b o8b aRb aGb aXb frb xh xi aX2 aG2 aR2 o72 o82 rh2 fr2
    go_wp2_with (first
     |((with_reducible refine LH aX9 2 Ts ?_ ?_);rfl)
     |(go_at_call 104;refine(HL.out w9).mono ?_;rintro e w10 ⟨rfl,b10⟩)
     |((with_reducible refine SF (Below.refl X w10) (aX9.b b10) LR (sG (h':Int) (2*(i:Int))) 2 ?_ ?_ ?_);rfl;rfl;intro w11 aX11 b11 k11 z11))
    have f11:=Fr.ofStore b11 k11 z11
    have hXw:w.heap.size≤X:=hX0.out
    have o9X:=eM (aJ o9 b10) (aX9.b b10) DC
    have o8X:=eM (aJ o89 b10) (aX9.b b10) DC
    go_step3
    go_frame
    refine AG (pT ?_)
    have hl8:(sk++ [(⟨h,i,none⟩:xX)]).length=n+1:=by rw[List.length_append,← hn.out];rfl
    have ok8:∀ f ∈ sk++ [(⟨h,i,none⟩:xX)],f.ok:=by
     intro f hf
     rcases List.mem_append.1 hf with hf|hf
     ·exact ok f hf
     ·rw[List.mem_singleton.1 hf]
      exact okn
    refine⟨sX nf (d+1) (sk++ [⟨h,i,none⟩]),?_,.inl ⟨rfl,d+1,k,h',2*i,v9,v8,sk++ [⟨h,i,none⟩],l,?_,?_,ok8,okl,by have:=eh.out;omega,hi2.out,hd8,hlk,hk,?_,rfl,?_⟩⟩
    ·simp[sX]
     omega
    ·exact⟨rfl,rfl,rfl,rfl,rfl,rfl,rfl,rfl,trivial⟩
    ·refine⟨Fr.transNew (fr9.trans (Below.fr b10)) f11 (fun j e=>.inr (by rw[e];exact hXw)),f11.av (aR9.b b10) hRX,f11.av (aG9.b b10) hGX,?_,?_,bU (aJ o89 b10) f11 (fun k e q=>o8X (by rw[e,q]))⟩
     ·rw[show (((2*i:Nat):Int))=2*(i:Int) by omega]
      exact aX11
     ·rw[hl8,← uD]
      exact bU (aJ o9 b10) f11 (fun k e q=>o9X (by rw[e,q]))
    ·rw[hl8,hn.out]
     omega
    ·rw[List.reverse_append]
     exact hun2.out
   ·have hb0:b=true→h=0:=fun e=>by
     apply Decidable.byContradiction
     intro hc
     exact hgo ⟨e,by omega⟩
    cases hxk:hs[k]? with
    |none=>
     have hk2:nh≤k:=by rw[← hnh.out];exact List.getElem?_eq_none_iff.1 hxk
     have HH:=EY tot Ah nh ch Af nf cf (d+1) k R hk2 OM w2 aR2
     have hans2:ans=none:=by rw[← hun.out,Do hb0 hdg.out hxk]
     subst hans2
     replace HH:=Hy HH
     replace hxk:=Hy hxk
     clear o72 o82 rh2 hun
     cases b with
     |false=>
      exact Xc42
     |true=>
      obtain rfl:=hb0 rfl
      have hgt:decide ((0:Int)<((0:Nat):Int))=false:=rfl
      exact Xc42
    |some x=>
     obtain⟨hkl,hxe⟩:=List.getElem?_eq_some_iff.1 hxk
     have x32:x.length=32:=h32 x (by rw[← hxe];exact List.getElem_mem hkl)
     have hx32:(x.map bv).length=32:=by rw[List.length_map,x32]
     have hxone:(x.map bv).all (·.oneCell')=true:=List.all_eq_true.2 (dB x)
     have hk1:k+1≤nh:=by rw[← hnh.out];exact hkl
     have HH:=QD hs h32 x tot Ah nh ch Af nf cf (d+1) k R hnh.out hxk OM w2 aR2 rh2 (hAh.out (fun e=>by have:=congrArg List.length e;rw[nC h32,hnh.out] at this;simp at this;omega))
     have hun2:Cp tot fl hs sk.reverse x (if b then l++ [(i,x)] else l) (d+1) (k+1)=ans:=by rw[← EX hb0 hdg.out hxk];exact hun.out
     have o7R2:=eM o72 aR2 DC
     have o8R2:=eM o82 aR2 DC
     replace HH:=Hy HH
     replace hxk:=Hy hxk
     replace hxe:=Hy hxe
     replace x32:=Hy x32
     replace hx32:=Hy hx32
     replace hxone:=Hy hxone
     replace hun2:=Hy hun2
     replace o7R2:=Hy o7R2
     replace o8R2:=Hy o8R2
     clear hun rh2
     cases b with
     |false=>
      go_upto_region 14 with (first
       |(go_at_call 105;refine(HH.out).mono ?_;rintro e w3 ⟨rfl,aR3,f3⟩)
       |((with_reducible refine SN (x.map bv) 32 ?_ ?_ ?_ (hn:=hx32.out) (h1:=hxone.out));rfl;rfl;intro w4 aH4 b4 k4 z4))
      obtain⟨Hh,hHh⟩:=Nm (w3.heap.size)
      rw[← hHh] at aH4 ⊢
      have aX3:=f3.av aX2 (Ne.symm hRX)
      have aG3:=f3.av aG2 hGR
      have o73:=bU o72 f3 (fun k e q=>o7R2.out (by rw[e,q]))
      have o83:=bU o82 f3 (fun k e q=>o8R2.out (by rw[e,q]))
      have fr3:=fr2.trans f3
      have hBH:B≤Hh:=by rw[hHh,hB.out];exact fr3.size
      have nHG:Hh≠G:=by have:=aG3.lt;omega
      have aX4:=aX3.b b4
      have aG4:=aG3.b b4
      have aR4:=aR3.b b4
      have o74:=aJ o73 b4
      have o84:=aJ o83 b4
      have fr4:=fr3.trans (Below.fr b4)
      replace hHh:=Hy hHh
      clear aX2 aG2 aR2 o72 o82 fr2 aX3 aG3 aR3 o73 o83 fr3 f3 b4 k4 z4 xh xi HH
      go_upto_region 16 with fail
      go_step3
      rename_i Q' K hK
      refine hK _ _ (sY ?_ (key1 (sX nf (d+1) sk+1) _ _ ?_))
      ·rintro l' a' w' ⟨m',hm',hq⟩
       refine⟨m',Nat.lt_trans hm' ?_,hq⟩
       simp[sX]
       omega
      ·exact⟨d+1,k+1,h,i,v7,v8,sk,l,x,Hh,⟨rfl,rfl,rfl,rfl,rfl,rfl,rfl,rfl,rfl,trivial⟩,⟨fr4,aR4,aG4,aX4,o74,o84⟩,ok,okl,aH4,hBH,nHG,x32.out,hd8,Nat.le_succ_of_le hlk,hk1,Nat.le_succ_of_le hsd,rfl,hun2.out⟩
     |true=>
      obtain rfl:=hb0 rfl
      have hgt:decide ((0:Int)<((0:Nat):Int))=false:=rfl
      go_upto_region 14 with (first
       |(go_at_call 105;refine(HH.out).mono ?_;rintro e w3 ⟨rfl,aR3,f3⟩)
       |((with_reducible refine SN (x.map bv) 32 ?_ ?_ ?_ (hn:=hx32.out) (h1:=hxone.out));rfl;rfl;intro w4 aH4 b4 k4 z4))
      obtain⟨Hh,hHh⟩:=Nm (w3.heap.size)
      rw[← hHh] at aH4 ⊢
      have aX3:=f3.av aX2 (Ne.symm hRX)
      have aG3:=f3.av aG2 hGR
      have o73:=bU o72 f3 (fun k e q=>o7R2.out (by rw[e,q]))
      have o83:=bU o82 f3 (fun k e q=>o8R2.out (by rw[e,q]))
      have fr3:=fr2.trans f3
      have hBH:B≤Hh:=by rw[hHh,hB.out];exact fr3.size
      have nHG:Hh≠G:=by have:=aG3.lt;omega
      have aX4:=aX3.b b4
      have aG4:=aG3.b b4
      have aR4:=aR3.b b4
      have o74:=aJ o73 b4
      have o84:=aJ o83 b4
      have fr4:=fr3.trans (Below.fr b4)
      replace hHh:=Hy hHh
      clear aX2 aG2 aR2 o72 o82 fr2 aX3 aG3 aR3 o73 o83 fr3 f3 b4 k4 z4 xh xi HH
      have xi4:=aX4.cell 1 _ rfl
      have hl33:(uX (i,x)).length=33:=rL x32.out
      have one33:=BQ (i,x)
      obtain⟨nl,hnl⟩:=Nm (l.length)
      rw[← hnl] at o84
      have nb:nl≤10000:=by omega
      have bal:=(Below.refl w4.heap.size w4).alloc LR (.cells (uX (i,x)).toArray 131)
      have o7b:=aJ o74 bal
      have o8b:=aJ o84 bal
      have aRb:=aR4.b bal
      have aGb:=aG4.b bal
      have aXb:=aX4.b bal
      have aHb:=aH4.b bal
      have frb:=fr4.trans (Below.fr bal)
      have hBb:B≤(w4.alloc (.cells (uX (i,x)).toArray 131)).heap.size:=by rw[hB.out];exact frb.size
      replace hl33:=Hy hl33
      replace one33:=Hy one33
      replace hnl:=Hy hnl
      replace hBb:=Hy hBb
      clear bal
      go_upto_region 16 with (first
       |((with_reducible refine LF aH4 32 hx32.out SS ?_ ?_);rfl)
       |((with_reducible refine vQ (i:Int) x x32.out ?_ ?_ ?_);rfl;rfl)
       |((with_reducible refine dQ (e:=131) underlying126 Kw Kx ?_ ?_ (uX (i,x)) hl33.out ?_ ?_);decide;decide;rfl)
       |(at_builtin;refine bT underlying126 Kw Kx DC o8b hBb.out (uX (i,x)) 1 1 (Av.rd (t:=131) (heap_alloc_new _ _)) (by rw[hl33.out]) one33.out OM OM rfl (.tmp 54) (.tmp 59) rfl rfl rfl ?_;intro v9 w9 o9 gr9 ob9))
      have f9:=Fr.of_grown gr9
      have aR9:=f9.av aRb (fun e=>eM o8b aRb DC e.symm)
      have aG9:=f9.av aGb (fun e=>eM o8b aGb DC e.symm)
      have aX9:=f9.av aXb (fun e=>eM o8b aXb DC e.symm)
      have aH9:=f9.av aHb (fun e=>eM o8b aHb DC e.symm)
      have o79:=bU o7b f9 (fun k e q=>Gr o8b o7b DC k e q.symm)
      have fr9:=Fr.app frb o8b hBw gr9
      have hll:(l++ [(i,x)]).length=nl+1:=by rw[List.length_append,← hnl.out];rfl
      have okl2:∀ p ∈ l++ [(i,x)],p.2.length=32:=by
       intro p hp
       rcases List.mem_append.1 hp with hp|hp
       ·exact okl p hp
       ·rw[List.mem_singleton.1 hp]
        exact x32.out
      clear f9 ob9 gr9 o7b o8b aRb aGb aXb aHb frb aR4 aG4 aX4 aH4 fr4 o74 o84 xi4
      go_step3
      rename_i Q' K hK
      refine hK _ _ (sY ?_ (key1 (sX nf (d+1) sk+1) _ _ ?_))
      ·rintro l' a' w' ⟨m',hm',hq⟩
       refine⟨m',Nat.lt_trans hm' ?_,hq⟩
       simp[sX]
       omega
      ·refine⟨d+1,k+1,0,i,v7,v9,sk,l++ [(i,x)],x,Hh,⟨rfl,rfl,rfl,rfl,rfl,rfl,rfl,rfl,rfl,trivial⟩,⟨fr9,aR9,aG9,aX9,o79,?_⟩,ok,okl2,aH9,hBH,nHG,x32.out,hd8,by rw[hll,hnl.out];omega,hk1,Nat.le_succ_of_le hsd,rfl,hun2.out⟩
       rw[hll,← Ds]
       exact o9
 case first=>
  intro key
  go_upto_region 5 with (first
   |(go_at_call 102;refine(HHt.out).mono ?_;rintro e w1 ⟨rfl,rfl⟩))
  go_step3
  rename_i Q' K hK
  refine hK _ _ (sY (Y:=fun l a w'=>∃ m,(l=0∧Sv fl hs tot Ah nh ch Af nf cf R G X B w ans m a w'∨l=1∧Sw fl hs tot Ah nh ch Af nf cf R G X B w ans m a w')) ?_ (key (sX nf 0 []) _ _ ?_))
  ·rintro l a' w' ⟨m',_,h⟩
   exact⟨m',h⟩
  ·refine⟨0,0,H0,0,.slice none 0 0,.slice none 0 0,[],[],⟨rfl,rfl,rfl,rfl,rfl,by rw[hX.out];rfl,rfl,rfl,trivial⟩,?_,by simp,by simp,?_,?_,Nat.zero_le _,Nat.le_refl _,Nat.zero_le _,Nat.le_refl _,rfl,?_⟩
   ·have bX:=(Below.refl w1.heap.size w1).alloc LR (.cells (sG (H0:Int) 0).toArray 209)
    refine⟨Below.fr (bW.trans (bX.mono bW.size)),aR.b bX,aG.b bX,?_,World.ownsRow_nil _ _ _ _,World.ownsRow_nil _ _ _ _⟩
    rw[hX.out]
    exact Av.new _ _ _
   ·rw[hH0.out];exact(xU tot ht).1
   ·rw[hH0.out]
    have hp:0<2 ^ xT tot:=Nat.pow_pos OM
    unfold mN
    exact Nat.div_pos OM hp
   ·rw[hans.out]
    show mD tot fl hs [] H0 0 [] 0 0=_
    unfold mD
    rw[uC]
    cases nW tot fl hs H0 0 0 0 <;> rfl
end Go.Proofs.YtobjgebojhjhnaaGreatDoor
