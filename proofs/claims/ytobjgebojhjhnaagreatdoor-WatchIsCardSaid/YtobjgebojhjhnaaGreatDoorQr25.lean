import Derived.Test.YtobjgebojhjhnaaGreatDoorPn
namespace Go.Proofs.YtobjgebojhjhnaaGreatDoor
set_option maxRecDepth 100000
set_option maxHeartbeats 16000000
open Go.RowKit Tryz
attribute [local go_sem high] eO gO gP
def mO (w0:World) (ans:Option kG) (e:Ending) (w':World):Prop:=
 Below w0.heap.size w0 w'∧match ans with
 |none=>e= .returned (.tuple #[.agg (cK bV),.slice none 0 0,.int .i64 13])
 |some r=>∃ A c,e= .returned (.tuple #[.agg (cK r.x),.slice A r.l.length c,.int .i64 0])∧r.l.length≤c∧(∀ a,A=some a→w0.heap.size≤a.block)∧Rd w' A (rX r.l)
theorem Xm142 {p q:Prop} (k:q) (h:Hid q→p:=by
 intro hk
 refine bodyPost_ret (v:=.tuple #[.agg (cK bV),.slice none 0 0,.int .i64 13]) ((cC (C:=bV.map bv) bM bM a9 _ SS rfl 32 rfl KR).trans bM) bM ?_
 exact hk.out):p:=h (Hy k)
theorem RU (fl:List UInt8) (hs:List (List UInt8)) (h32:dV hs) (tot:Nat) (Ah:Option Addr) (nh ch:Nat) (Af:Option Addr) (nf cf:Nat) (hnh:hs.length=nh) (hnf:fl.length=nf) (ht:tot<4294967296) (hnf2:nf≤10000) (hnh2:nh≤10000) (w:World)
  (hrh:Rd w Ah (eB hs)) (hrf:Rd w Af (fl.map bv)) (hT:fW w):
  Calls prog 46 #[.agg (qG tot Ah nh ch Af nf cf).toArray] w (mO w (kJ tot hs fl)):=by
 obtain⟨ans,hans⟩:=Nm (kJ tot hs fl)
 rw[← hans]
 have hz:=eK
 rw[show List.replicate 32 (0:UInt8)=bV from rfl] at hz
 obtain⟨T,hT1⟩:=Nm (w.heap.size)
 obtain⟨G,hG⟩:=Nm (w.heap.size+1)
 obtain⟨W,hW⟩:=Nm ((w.alloc (.cells (qG tot Ah nh ch Af nf cf).toArray 125)).alloc (.cells (bV.map bv).toArray 35))
 have bW:Below w.heap.size w W:=by rw[hW];exact((Below.refl _ _).alloc LR _).alloc zS _
 have aT:Av W T 125 (qG tot Ah nh ch Af nf cf):=by rw[hW,hT1];exact Av.newer w (qG tot Ah nh ch Af nf cf) _ _
 have aG:Av W G 35 (bV.map bv):=by rw[hW,hG,← World.size_alloc w (.cells (qG tot Ah nh ch Af nf cf).toArray 125)];exact Av.new _ _ _
 have hGw:w.heap.size≤G:=by omega
 have hzone:(bV.map bv).all (·.oneCell')=true:=rfl
 have HM:=fun w'=>RR hs fl tot Ah nh ch Af nf cf hnh hnf OM OM ht w'
 obtain⟨m,hm⟩:=Nm (vP tot hs fl)
 rw[← hm] at HM
 have sW:W.heap.size=w.heap.size+2:=by rw[hW];simp
 replace hW:=Hy hW
 replace hT1:=Hy hT1
 replace hG:=Hy hG
 replace hzone:=Hy hzone
 replace HM:=Hy HM
 replace hnh:=Hy hnh
 replace hnf:=Hy hnf
 replace hans:=Hy hans
 replace sW:=Hy sW
 go_enter func46,ntmps46
 go_upto_region 1 with fail
 rw[← hT1.out]
 rw[show T+1=G by rw[hT1.out,hG.out]]
 rw[← hW.out]
 cases m with
 |false=>
  have hb:ans=none:=by
   have:=hm
   rw[hans.out,kJ,← this]
   rfl
  subst hb
  replace hm:=Hy hm
  go_upto_region 2 with (first
   |((with_reducible refine LH aT 3 Ty ?_ ?_);rfl)
   |(go_at_call 69;refine(HM.out W).mono ?_;rintro e w1 ⟨rfl,b1⟩))
  have aG1:=aG.b b1
  go_wp2_with (first
   |((with_reducible refine SF (Below.refl w.heap.size w1) aG1 hGw (bV.map bv) 32 ?_ ?_ ?_ (h1:=hzone.out));rfl;rfl;intro w9 a9 b9 k9 z9))
  refine Xm142 ?_
  exact⟨(bW.trans (b1.mono bW.size)).trans (b9.mono LR),rfl⟩
 |true=>
  have may:tot≠0∧tot≤4096∧hs.length≤tot∧hs.length≤8*fl.length:=by
   have:=hm.symm
   unfold vP at this
   exact of_decide_eq_true this
  have ht0:0<tot:=by omega
  have ht2:tot≤4096:=may.2.1
  replace may:=Hy may
  have hans2:ans=(nW tot fl hs (xT tot) 0 0 0).filter fun r=>sF hs fl r.d r.k:=by
   have:=hm
   rw[hans.out,kJ,← this]
   rfl
  obtain⟨rr,hrr⟩:=Nm (nW tot fl hs (xT tot) 0 0 0)
  have HR:=fun R w' a b c d e f=>QH fl hs h32 tot Ah nh ch Af nf cf R hnh.out hnf.out ht0 ht2 hnf2 hnh2 w' a b c d e f
  have hbd:∀ r,rr=some r→r.d≤8*fl.length∧r.x.length=32:=fun r hr=>by
   rw[hrr] at hr
   have:=kV tot fl hs h32 _ _ _ _ _ hr
   exact⟨this.2.1,this.2.2.2.2.2.1⟩
  rw[← hrr] at HR hans2
  replace HR:=Hy HR
  replace hrr:=Hy hrr
  replace hm:=Hy hm
  replace hbd:=Hy hbd
  clear hans
  go_upto_region 3 with (first
   |((with_reducible refine LH aT 3 Ty ?_ ?_);rfl)
   |(go_at_call 69;refine(HM.out W).mono ?_;rintro e w1 ⟨rfl,b1⟩))
  have aG1:=aG.b b1
  have aT1:=aT.b b1
  have bw1:=bW.trans (b1.mono bW.size)
  have sw1:w.heap.size+2≤w1.heap.size:=by rw[← sW.out];exact b1.size
  replace hans2:=Hy hans2
  clear aG aT b1 bW HM
  go_upto_region 4 with (first
   |((with_reducible refine LH aT1 3 Ty ?_ ?_);rfl)
   |((with_reducible refine yA (.agg (wF tot Ah nh ch Af nf cf 0 0).toArray) ?_ ?_);kernel_rfl))
  obtain⟨W2,hW2⟩:=Nm (w1.alloc (.cells (wF tot Ah nh ch Af nf cf 0 0).toArray 171))
  obtain⟨R,hR⟩:=Nm (w1.heap.size)
  have aR:Av W2 R 171 (wF tot Ah nh ch Af nf cf 0 0):=by rw[hW2,hR];exact Av.new _ _ _
  have b2:Below w1.heap.size w1 W2:=by rw[hW2];exact(Below.refl _ _).alloc LR _
  have bw2:=bw1.trans (b2.mono bw1.size)
  have aG2:=aG1.b b2
  have rh2:=hrh.b bw2
  have rf2:=hrf.b bw2
  have hRw:w.heap.size≤R:=by rw[hR];omega
  have hRG:R≠G:=by have:=aG1.lt;omega
  have frT:∀ w',Fr (fun j=>j=R) W2 w'→Below w.heap.size w w':=fun w' f=>bw2.trans (f.b (fun k hk=>by rw[hk];exact hRw) bw2.size)
  have nAh:eB hs≠ []→ ∀ a,Ah=some a→a.block≠R:=fun hne a ha=>by have:=hrh.lt hne a ha;omega
  have nAf:fl.map bv≠ []→ ∀ a,Af=some a→a.block≠R:=fun hne a ha=>by have:=hrf.lt hne a ha;omega
  have HR2:=HR.out R W2 aR rh2 rf2 nAh nAf (fun w' f=>hT.b (frT w' f))
  rw[← hW2,← hR]
  replace HR2:=Hy HR2
  replace hW2:=Hy hW2
  replace hR:=Hy hR
  replace nAh:=Hy nAh
  replace nAf:=Hy nAf
  clear HR aG1 aT1 b2 bw1
  cases rr with
  |none=>
   have hb:ans=none:=hans2.out
   subst hb
   go_upto_region 6 with (first
    |(go_at_call 70;refine(HR2.out).mono ?_;rintro e w3 ⟨f3,rfl,_⟩)
    |((with_reducible refine SN (bV.map bv) 32 ?_ ?_ ?_ (h1:=hzone.out));rfl;rfl;intro w4 aH4 b4 k4 z4))
   have aG3:=(f3.av aG2 (Ne.symm hRG)).b b4
   have bw4:=(frT _ f3).trans (b4.mono (frT _ f3).size)
   clear aH4 b4 k4 z4 aG2
   go_wp2_with (first
    |((with_reducible refine SF (Below.refl w.heap.size w4) aG3 hGw (bV.map bv) 32 ?_ ?_ ?_ (h1:=hzone.out));rfl;rfl;intro w9 a9 b9 k9 z9))
   refine Xm142 ?_
   exact⟨bw4.trans b9,rfl⟩
  |some r=>
   obtain⟨rx,rl,rd,rk⟩:=r
   obtain⟨hd8,hx0⟩:=hbd.out _ rfl
   dsimp only at hd8 hx0
   have hx32:(rx.map bv).length=32:=by rw[List.length_map,hx0]
   have hxone:(rx.map bv).all (·.oneCell')=true:=List.all_eq_true.2 (dB rx)
   obtain⟨q,hq⟩:=Nm (sF hs fl rd rk)
   have hans3:ans=if q then some ⟨rx,rl,rd,rk⟩ else none:=by
    rw[hans2.out,hq,Option.filter_some]
   have rdb:rd≤80000:=by have:=hnf.out;omega
   replace hx32:=Hy hx32
   replace hxone:=Hy hxone
   replace hans3:=Hy hans3
   replace hx0:=Hy hx0
   replace hq:=Hy hq
   replace hd8:=Hy hd8
   replace hbd:=Hy hbd
   clear hans2
   go_upto_region 5 with (first
    |(go_at_call 70;refine(HR2.out).mono ?_;rintro e w3 ⟨f3,A,c,rfl,hlc,hA3,rl3,aR3⟩;dsimp only at hlc rl3 aR3;dsimp only)
    |((with_reducible refine SN (rx.map bv) 32 ?_ ?_ ?_ (hn:=hx32.out) (h1:=hxone.out));rfl;rfl;intro w4 aH4 b4 k4 z4))
   have aG4:=(f3.av aG2 (Ne.symm hRG)).b b4
   have hAw:∀ a,A=some a→w.heap.size≤a.block:=fun a e=>Nat.le_trans bw2.size (hA3 a e)
   have hAG:∀ a,A=some a→a.block≠G:=fun a e=>by have:=hA3 a e;have:=aG2.lt;omega
   replace hAw:=Hy hAw
   replace hAG:=Hy hAG
   have bw3:=frT _ f3
   have bw4:=bw3.trans (b4.mono bw3.size)
   have aR4:=aR3.b b4
   have rl4:=rl3.b b4
   have rf4:=hrf.b bw4
   have HD:=QF hs fl tot Ah nh ch Af nf cf rd rk R hnh.out hnf.out OM w4 rf4 aR4
   rw[← hq.out] at HD
   obtain⟨Hh,hHh⟩:=Nm (w3.heap.size)
   rw[← hHh] at aH4 ⊢
   replace hHh:=Hy hHh
   replace HD:=Hy HD
   replace nAh:=Hy nAh
   clear b4 k4 z4 aG2 aR3 rl3 f3 bw3 HR2
   cases q with
   |false=>
    have hb:ans=none:=hans3.out
    subst hb
    go_upto_region 6 with (go_at_call 71;refine(HD.out).mono ?_;rintro e w5 ⟨rfl,b5⟩)
    have aG5:=aG4.b b5
    go_wp2_with (first
     |((with_reducible refine SF (Below.refl w.heap.size w5) aG5 hGw (bV.map bv) 32 ?_ ?_ ?_ (h1:=hzone.out));rfl;rfl;intro w9 a9 b9 k9 z9))
    refine Xm142 ?_
    exact⟨(bw4.trans (b5.mono bw4.size)).trans b9,rfl⟩
   |true=>
    have hb:ans=some ⟨rx,rl,rd,rk⟩:=hans3.out
    subst hb
    go_upto_region 7 with (go_at_call 71;refine(HD.out).mono ?_;rintro e w5 ⟨rfl,b5⟩)
    have aG5:=aG4.b b5
    have aH5:=aH4.b b5
    have rl5:=rl4.b b5
    go_wp2_with (first
     |((with_reducible refine LF aH5 32 hx32.out SS ?_ ?_);rfl)
     |((with_reducible refine SF (Below.refl w.heap.size w5) aG5 hGw (rx.map bv) 32 ?_ ?_ ?_ (hn:=hx32.out) (h1:=hxone.out));rfl;rfl;intro w9 a9 b9 k9 z9))
    have f9:=Fr.ofStore b9 k9 z9
    refine bodyPost_ret (v:=.tuple #[.agg (cK rx),.slice A rl.length c,.int .i64 0]) ((cC (C:=rx.map bv) bM bM a9 _ SS rfl 32 hx32.out KR).trans bM) bM ?_
    exact⟨(bw4.trans (b5.mono bw4.size)).trans b9,A,c,rfl,hlc,hAw.out,f9.rd rl5 hAG.out⟩
end Go.Proofs.YtobjgebojhjhnaaGreatDoor
namespace Go.Proofs.YtobjgebojhjhnaaGreatDoor
set_option maxRecDepth 100000
set_option maxHeartbeats 16000000
open Go.RowKit Tryz
def pV (tot:Nat) (Ah:Option Addr) (nh ch:Nat) (Af:Option Addr) (nf cf d k:Nat) (M:Value) (b:Bool):List Value:=
 [.int .u32 tot,.slice Ah nh ch,.slice Af nf cf,.int .i64 tot,.int .i64 d,.int .i64 k,M,.bool b]
theorem Xm167 {p q:Prop} (k:q) (h:Hid q→p:=by
 intro hk
 go_enter func76,ntmps76
 go_upto_region 1 with fail
 refine ZR ?_
 repeat refine ZP (fun w hw=>by have:=(hA.b hw.drew).cell 4 _ rfl;have:=(hA.b hw.drew).cell 2 _ rfl;exact zG) ?_
 refine bO fun w2 hw2=>aF ?_
 have e2:=hw2.drew
 have a2:=hA.b e2
 rename_i zq0 zq1 zq2 zq3 zq4
 revert zq0 zq1 zq2 zq3 zq4 w2 hw2 e2 a2;exact hk.out):p:=h (Hy k)
theorem DG (tot:Nat) (Ah:Option Addr) (nh ch:Nat) (Af:Option Addr) (nf cf d k R:Nat) (M:Value) (b:Bool) (hd:8*nf≤d) (hd2:d≤1000000) (w:World) (hA:Av w R 178 (pV tot Ah nh ch Af nf cf d k M b)):
  Calls prog 76 #[.pointer (some ⟨R,0,none⟩)] w fun e w'=>e= .returned (.bool false)∧Av w' R 178 (pV tot Ah nh ch Af nf cf d k M true)∧Fr (fun j=>j=R) w w':=by
 unfold pV at hA
 have c2:=hA.cell 2 _ rfl
 have c4:=hA.cell 4 _ rfl
 have f7:=frozen_of_row _ _ 7 _ _ hA
 have c7:=hA.cell 7 _ rfl
 have t1:decide (8*(nf:Int)≤(d:Int))=true:=by simp;omega
 have e1:IntKind.i64.wrap (8*(nf:Int))=8*(nf:Int):=by rw[IntKind.wrap_i64];omega
 have fr1:=Fr.setCell w ⟨R,7,none⟩ (.bool true)
 have hA2:=hA.set 7 (.bool true)
 replace hA2:=Hy hA2
 replace fr1:=Hy fr1
 clear c2 c4 f7 c7 fr1 hA2
 refine Xm167 ?_;intro _ _ _ _ _ w2 hw2 e2 a2
 have f7:=frozen_of_row _ _ 7 _ _ a2
 have c7:=a2.cell 7 _ rfl
 have fr1:=(Below.fr (S:=fun j=>j=R) e2).trans (Fr.setCell w2 ⟨R,7,none⟩ (.bool true))
 have hA2:=a2.set 7 (.bool true)
 replace hA2:=Hy hA2
 replace fr1:=Hy fr1
 go_wp2
 go_ret
 exact⟨rfl,hA2.out,fr1.out⟩
theorem sH (fl:List UInt8) (b:Bool) (tot:Nat) (Ah:Option Addr) (nh ch:Nat) (Af:Option Addr) (nf cf d k R:Nat) (M:Value) (bad:Bool) (hnf:fl.length=nf) (hnf2:nf≤10000) (hd:fX fl d=some b) (hd2:d≤1000000) (w:World) (hA:Av w R 178 (pV tot Ah nh ch Af nf cf d k M bad)) (hr:Rd w Af (fl.map bv)):
  Calls prog 76 #[.pointer (some ⟨R,0,none⟩)] w fun e w'=>e= .returned (.bool b)∧Av w' R 178 (pV tot Ah nh ch Af nf cf (d+1) k M bad)∧Fr (fun j=>j=R) w w':=by
 unfold pV at hA
 have c2:=hA.cell 2 _ rfl
 have c4:=hA.cell 4 _ rfl
 have f4:=frozen_of_row _ _ 4 _ _ hA
 have hlt:=dM hd
 rw[nF hlt] at hd
 obtain rfl:=Option.some.inj hd
 obtain⟨q,hq⟩:=Nm (d / 8)
 obtain⟨s,hs⟩:=Nm (d % 8)
 have e1:(d:Int) / 8=(q:Int):=by omega
 have e2:(d:Int) % 8=(s:Int):=by omega
 have t1:decide (8*(nf:Int)≤(d:Int))=false:=by simp;omega
 have e3:IntKind.i64.wrap (8*(nf:Int))=8*(nf:Int):=by rw[IntKind.wrap_i64];omega
 have s0:(0:Int)≤(s:Int):=by omega
 have s8:(s:Int)<8:=by omega
 have hqn:q<nf:=by omega
 rw[← hq,← hs]
 obtain⟨x,hx⟩:=Nm (fl.getD q 0)
 have hg:fl[q]? =some x:=by rw[hx,List.getD_eq_getElem?_getD,List.getElem?_eq_getElem OM];rfl
 rw[← hx]
 obtain⟨bb,off,e⟩:=hr.someA (by intro h;have:=congrArg List.length h;rw[List.length_map,hnf] at this;simp at this;omega)
 subst e
 have cx:∀ w',Below w.heap.size w w'→w'.cell? ⟨bb,off+q,none⟩=some (bv x):=by
  intro w' hE
  rcases hr.b hE with h|⟨b',o',hA',hc⟩
  ·have:=congrArg List.length h;rw[List.length_map,hnf] at this;simp at this;omega
  ·cases hA'
   exact hc q _ (by rw[List.getElem?_map,hg];rfl)
 have m0:0≤(q:Int):=by omega
 have wq:IntKind.i64.wrap (q:Int)=(q:Int):=by rw[IntKind.wrap_i64];omega
 have tm:(d:Int).tmod 8=(s:Int):=by rw[Int.tmod_eq_emod_of_nonneg OM];omega
 have wu:IntKind.u64.wrap (s:Int)=(s:Int):=by rw[IntKind.wrap_u64];omega
 have mn:min s 8=s:=by omega
 have ws:IntKind.i64.wrap (s:Int)=(s:Int):=by rw[IntKind.wrap_i64];omega
 have m1:(q:Int)<(nf:Int):=by omega
 replace cx:=Hy cx
 clear c2 c4 f4
 replace hq:=Hy hq
 replace hs:=Hy hs
 replace hx:=Hy hx
 replace hg:=Hy hg
 replace hnf:=Hy hnf
 have hxl:=Cm.u8_lt x
 refine Xm167 ?_;intro _ _ _ _ _ w2 hw2 e2 a2
 go_upto_region 4 with fail
 refine ZR ?_
 repeat refine ZP (fun w hw=>by have:=(a2.b hw.drew).cell 2 _ rfl;have:=(a2.b hw.drew).cell 4 _ rfl;have:=cx.out w (Below.trans e2 (hw.drew.mono e2.size));exact zG) ?_
 refine bO fun w3 hw3=>aF ?_
 have e3:=Below.trans e2 (hw3.drew.mono e2.size)
 have a3:=hA.b e3
 have c4:=a3.cell 4 _ rfl
 have f4:=frozen_of_row _ _ 4 _ _ a3
 have fr1:=(Below.fr (S:=fun j=>j=R) e3).trans (Fr.setCell w3 ⟨R,4,none⟩ (.int .i64 ((d:Int)+1)))
 have hA2:=a3.set 4 (.int .i64 ((d:Int)+1))
 replace hA2:=Hy hA2
 replace fr1:=Hy fr1
 go_wp2
 go_ret
 refine⟨?_,hA2.out,fr1.out⟩
 rw[← sV _ _ hxl]
 first|done|rfl|(show Ending.returned (Value.bool _)=Ending.returned (Value.bool _);rw[wu,Int.toNat_natCast,mn])
open Go.RowKit
attribute [local go_sem high] eO gO gP
def Po (n:Nat) (ms:List Bool) (h i:Nat):Bool:=(List.range (2 ^ h)).any fun j=>decide (i*2 ^ h+j<n) && ms.getD (i*2 ^ h+j) false
end Go.Proofs.YtobjgebojhjhnaaGreatDoor
namespace Go.Proofs.YtobjgebojhjhnaaGreatDoor
open Go.RowKit
attribute [local go_sem high] eO gO gP
structure PV where
 h:Nat
 i:Nat
 d:Bool
def PV.told (x:PV):Bool:=!x.d || x.h==0
def Na (n:Nat) (ms:List Bool):Nat→Nat→List PV
 |0,i=>[⟨0,i,Po n ms 0 i⟩]
 |h+1,i=>⟨h+1,i,Po n ms (h+1) i⟩ :: if Po n ms (h+1) i then Na n ms h (2*i)++(if 2*i+1<mN n h then Na n ms h (2*i+1) else []) else []
def QL (n:Nat) (ms:List Bool) (st:List (Nat × Nat)):List PV:=st.reverse.flatMap fun p=>Na n ms p.1 p.2
structure nO (T:TypeId) (w w':World):Prop where
 os:w'.os=w.os
 tape:w'.tape=w.tape
 output:w'.output=w.output
 size:w.heap.size≤w'.heap.size
 block:∀ (k:Nat) (cs:Array Value) (fz:Nat × Nat),w.heap[k]? =some (Obj.cells cs T fz)→w'.heap[k]? =w.heap[k]?
structure kM (B:Nat) (T:TypeId) (w w':World):Prop where
 os:w'.os=w.os
 tape:w'.tape=w.tape
 output:w'.output=w.output
 size:w.heap.size≤w'.heap.size
 low:∀ k:Nat,k<w.heap.size→k<B→w'.heap[k]? =w.heap[k]?
 other:∀ (k:Nat) (cs:Array Value) (t:TypeId) (fz:Nat × Nat),w.heap[k]? =some (Obj.cells cs t fz)→t≠T→w'.heap[k]? =w.heap[k]?
theorem kM.ofBelow {B:Nat} {T:TypeId} {w w':World} (h:Below w.heap.size w w'):kM B T w w':=
 ⟨h.os,h.tape,h.output,h.size,fun k hk _=>h.block k hk,fun k _ _ _ e _=>h.block k (Array.getElem?_eq_some_iff.1 e).1⟩
theorem kM.ofGrown {B:Nat} {T:TypeId} {w w':World} {size n:Nat} {v:Value} {xs:List Value} (ho:w.ownsRow B T size v n xs) (h:w.grownBy w' v.ownBlock):kM B T w w':=by
 refine⟨h.os,h.tape,h.output,h.size,fun k hk hB=>h.block k hk fun e=>?_,fun k _ _ _ e ht=>h.block k (Array.getElem?_eq_some_iff.1 e).1 fun e2=>?_⟩
 ·have:=(World.ownsRow.lt ho k e.symm).1
  omega
 ·rcases ho.2 with ⟨h1,_⟩|⟨g,cap,cur,e1,e2',e3,_⟩
  ·rw[h1] at e2;simp[Value.ownBlock] at e2
  ·have:g=k:=by rw[e1] at e2;simpa [Value.ownBlock] using e2.symm
   subst this
   rw[e3] at e
   injection Option.some.inj e with _ h2
   exact ht h2.symm
theorem nO.own {T:TypeId} {w w':World} {B size n:Nat} {v:Value} {xs:List Value} (h:nO T w w') (ho:w.ownsRow B T size v n xs):w'.ownsRow B T size v n xs:=by
 refine⟨ho.1,ho.2.imp id ?_⟩
 rintro⟨g,cap,cur,rfl,hb,hg,hrest⟩
 refine⟨g,cap,cur,rfl,hb,?_,hrest⟩
 rw[h.block g _ _ hg]
 exact hg
theorem nO.av {T:TypeId} {w w':World} {g:Nat} {l:List Value} (h:nO T w w') (ha:Av w g T l):Av w' g T l:=ha.same (h.block g _ _ ha)
theorem kM.av {B:Nat} {T t:TypeId} {w w':World} {g:Nat} {l:List Value} (h:kM B T w w') (ha:Av w g t l) (ht:t≠T):Av w' g t l:=ha.same (h.other g _ _ _ ha ht)
theorem kM.own {B:Nat} {T t:TypeId} {w w':World} {C size n:Nat} {v:Value} {xs:List Value} (h:kM B T w w') (ho:w.ownsRow C t size v n xs) (ht:t≠T):w'.ownsRow C t size v n xs:=by
 refine⟨ho.1,ho.2.imp id ?_⟩
 rintro⟨g,cap,cur,rfl,hb,hg,hrest⟩
 refine⟨g,cap,cur,rfl,hb,?_,hrest⟩
 rw[h.other g _ _ _ hg ht]
 exact hg
theorem kM.trans {B:Nat} {T:TypeId} {a b c:World} (h:kM B T a b) (k:kM B T b c):kM B T a c:=
 ⟨k.os.trans h.os,k.tape.trans h.tape,k.output.trans h.output,Nat.le_trans h.size k.size,fun i hi hB=>(k.low i (Nat.lt_of_lt_of_le hi h.size) hB).trans (h.low i hi hB),fun i cs t fz e ht=>(k.other i cs t fz ((h.other i cs t fz e ht).trans e) ht).trans (h.other i cs t fz e ht)⟩
theorem kM.b {B C:Nat} {T:TypeId} {w0 w w':World} (h:kM B T w w') (hb:Below C w0 w) (hC:C≤B) (hC2:C≤w.heap.size):Below C w0 w':=
 ⟨h.os.trans hb.os,h.tape.trans hb.tape,h.output.trans hb.output,Nat.le_trans hb.size h.size,fun k hk=>(h.low k OM OM).trans (hb.block k hk)⟩
theorem kM.rd {B:Nat} {T:TypeId} {w w':World} {A:Option Addr} {xs:List Value} (h:kM B T w w') (hr:Rd w A xs) (hA:∀ a,A=some a→xs≠ []→a.block<B):Rd w' A xs:=by
 rcases hr with e|⟨b,off,e,hc⟩
 ·exact .inl e
 ·by_cases hx:xs= []
  ·exact .inl hx
  ·exact .inr ⟨b,off,e,fun j u hu=>(World.cell?_of_block (a:=⟨b,off+j,none⟩) (h.low b (World.block_lt_of_cell? w _ (hc j u hu)) (hA _ e hx))).trans (hc j u hu)⟩
def SG (st:List (Nat × Nat)):List Value:=st.flatMap fun p=>sG (p.1:Int) (p.2:Int)
def SO (n:Nat) (ms:List Bool) (Am:Option Addr) (nm cm f:Nat) (caps:Array Value) (B:Nat) (Inv:List PV→World→Prop) (all:List PV) (m:Nat) (a:Act) (w:World):Prop:=
 ∃ (v6:Value) (st:List (Nat × Nat)) (s:List PV),Dt a 64 [(0,.int .i64 (n:Int)),(1,.slice Am nm cm),(2,.func (.func f) #[] caps),(6,v6)]∧Inv s w∧B≤w.heap.size∧w.ownsRow B 209 2 v6 st.length (SG st)∧st≠ []∧
  (∀ p ∈ st,p.1≤12∧p.2<mN n p.1)∧s++QL n ms st=all∧m=(QL n ms st).length
end Go.Proofs.YtobjgebojhjhnaaGreatDoor
namespace Go.Proofs.YtobjgebojhjhnaaGreatDoor
open Go.RowKit
section
variable {n:Nat} {fl:List UInt8} {hs:List (List UInt8)} {h i d k:Nat}
theorem KO (e:fX fl d=none):nW n fl hs h i d k=none:=by
 cases h <;> (rw[nW,e];rfl)
theorem DI {b:Bool} (hb:b=true→h=0) (e:fX fl d=some b):nW n fl hs h i d k=(hs[k]?).map fun x=>⟨x,if b then [(i,x)] else [],d+1,k+1⟩:=by
 cases h with
 |zero=>rw[nW,e];rfl
 |succ h=>
  cases b with
  |true=>exact absurd (hb rfl) OM
  |false=>rw[nW,e];rfl
theorem KP (e : fX fl d = some true) : nW n fl hs (h + 1) i d k = (nW n fl hs h (2 * i) (d + 1) k).bind fun r =>
      if 2 * i + 1 < mN n h then (nW n fl hs h (2 * i + 1) r.d r.k).bind fun s => if r.x = s.x then none else some ⟨gZ r.x s.x, r.l ++ s.l, s.d, s.k⟩
      else some ⟨gZ r.x r.x, r.l, r.d, r.k⟩ := by
  rw [nW, e]; rfl
end
def dX (R:Nat) (w w':World):Prop:=w.heap.size≤w'.heap.size∧ ∀ g t (l:List Value),Av w g t l→t≠138→g≠R→Av w' g t l
theorem dX.av {R g:Nat} {w w':World} {t:TypeId} {l:List Value} (h:dX R w w') (ha:Av w g t l) (ht:t≠138) (hg:g≠R):Av w' g t l:=h.2 g t l ha ht hg
theorem dX.trans {R:Nat} {a b c:World} (h:dX R a b) (k:dX R b c):dX R a c:=⟨Nat.le_trans h.1 k.1,fun _ _ _ ha ht hg=>k.av (h.av ha ht hg) ht hg⟩
theorem dX.ofBelow {R:Nat} {w w':World} (h:Below w.heap.size w w'):dX R w w':=⟨h.size,fun _ _ _ ha _ _=>ha.b h⟩
theorem dX.ofFr {R:Nat} {w w':World} (h:Fr (fun j=>j=R) w w'):dX R w w':=⟨h.size,fun _ _ _ ha _ hg=>h.av ha hg⟩
theorem dX.setR {R i:Nat} {w v:World} (h:dX R w v) (x:Value):dX R w (v.setCell ⟨R,i,none⟩ x):=h.trans (dX.ofFr (Fr.setCell v ⟨R,i,none⟩ x))
theorem dX.store {R X:Nat} {w v v':World} (h:dX R w v) (hX:w.heap.size≤X) (k:∀ j,j≠X→v'.heap[j]? =v.heap[j]?) (z:v'.heap.size=v.heap.size):dX R w v':=
 ⟨by rw[z];exact h.1,fun g _ _ ha ht hg=>(h.av ha ht hg).same (k g (by have:=ha.lt;omega))⟩
theorem dX.app {R B:Nat} {w v v':World} (h:dX R w v) (T:kM B 138 v v') (z:v.heap.size≤v'.heap.size):dX R w v':=
 ⟨Nat.le_trans h.1 z,fun _ _ _ ha ht hg=>T.av (h.av ha ht hg) ht⟩
def eU (tot:Nat) (Ah:Option Addr) (nh ch:Nat) (Af:Option Addr) (nf cf R:Nat) (w0:World) (l:List (Nat × List UInt8)) (w:World) (ans:Option kG) (e:Ending) (w':World):Prop:=
 Below w0.heap.size w0 w'∧dX R w w'∧match ans with
 |none=>e= .returned (.agg (cK bV))∧∃ d k M,d≤8*nf∧k≤nh∧Av w' R 178 (pV tot Ah nh ch Af nf cf d k M true)
 |some r=>e= .returned (.agg (cK r.x))∧∃ M,Av w' R 178 (pV tot Ah nh ch Af nf cf r.d r.k M false)∧w'.ownsRow w0.heap.size 138 33 M (l.length+r.l.length) (rX (l++r.l))
end Go.Proofs.YtobjgebojhjhnaaGreatDoor
namespace Go.Proofs.YtobjgebojhjhnaaGreatDoor
set_option maxRecDepth 100000
set_option maxHeartbeats 16000000
open Go.RowKit Tryz
theorem Gt:(prog.info? 138).map (fun i=>(i.size,i.bytes))=some (33,40):=by kernel_rfl
theorem Gu:(prog.info? 138).map (fun i=>(i.zero.map (·.cells.size)))=some (some 33):=by kernel_rfl
theorem Im (i:Int) (x:List UInt8) (hx:x.length=32):prog.built 138 [(0,.int .i64 i),(1,.agg (x.map bv).toArray)]=some ([Value.int .i64 i]++x.map bv).toArray:=by
 exact Xc162
theorem yH {ρ:Operand→Value} {o:Oper} {w:World} (i:Nat) (x:List UInt8) (hx:x.length=32) {x0 x1:Operand} (ho:o.op= .build 138 #[(0,x0),(1,x1)]) (h0:ρ x0= .int .i64 (i:Int)) (h1:ρ x1= .agg (x.map bv).toArray):
  (execOp ρ o).run prog w= .ok (.value (.agg (uX (i,x)).toArray)) w:=by
 have:=run_build (P:=prog) w 138 #[(0,.int .i64 (i:Int)),(1,.agg (x.map bv).toArray)] _ (Im i x hx)
 unfold execOp
 simp only[ho,Sem.run_bind,List.map_toArray,List.map_cons,List.map_nil,h0,h1,this,Result.andThen_ok]
 rfl
theorem Of {B g:Nat} {w0 w w2:World} (k:∀ k,k≠g→w2.heap[k]? =w.heap[k]?) (z:w2.heap.size=w.heap.size) (b:Below B w0 w) (b2:Below B w0 w2):Fr (fun j=>j=g) w w2:=
 ⟨b2.os.trans b.os.symm,b2.tape.trans b.tape.symm,b2.output.trans b.output.symm,by rw[z];exact Nat.le_refl _,fun j _ hj=>k j hj⟩
def KQ (b:Nat):VP:=fun v w=>∃ g,v= .pointer (some ⟨g,0,none⟩)∧b≤g∧Av w g 35 (bV.map bv)
theorem KQ.mono {b:Nat} {v:Value} {w w':World} (h:cI w w'):KQ b v w→KQ b v w':=by
 rintro⟨g,rfl,hb,ha⟩
 exact⟨g,rfl,hb,ha.b h⟩
theorem Cb {ρ:Operand→Value} {w:World} (o:Oper) (ho:o.op= .alloc 35):(execOp ρ o).run prog w= .ok (.value (.pointer (some ⟨w.heap.size,0,none⟩))) (w.alloc (.cells (bV.map bv).toArray 35)):=by
 have hz:=eK
 rw[show List.replicate 32 (0:UInt8)=bV from rfl] at hz
 unfold execOp
 simp only[ho]
 go_simp
theorem Xc156 {p:Prop} (h:p:=by
 refine bodyPost_ret (results_cell_row rfl _ _ G _ _ (0,0) _ rfl a9 SS rfl KR) rfl ⟨b9,K1.store hGw2 k9 z9,rfl,d,k,M,hd2,hk,a1.same (k9 R hRG)⟩):p:=h
theorem Xm2 {p q:Prop} (k:q) (h:Hid q→p:=by
 intro hk
 have hz:=eK
 rw[show List.replicate 32 (0:UInt8)=bV from rfl] at hz
 obtain⟨W,hW⟩:=Nm (w.alloc (.cells (bV.map bv).toArray 35))
 obtain⟨G,hG⟩:=Nm (w.heap.size)
 have bW:Below w.heap.size w W:=by rw[hW];exact(Below.refl _ _).alloc LR _
 have aG:Av W G 35 (bV.map bv):=by rw[hW,hG];exact heap_alloc_new _ _
 have aR:=hA.b bW
 have oM:=aJ ho bW
 have hRG:R≠G:=by have:=hA.lt;omega
 have hGR:G≠R:=Ne.symm hRG
 have hGw:w0.heap.size≤G:=by rw[hG];exact hb.size
 have b0:Below w0.heap.size w0 W:=hb.trans (bW.mono hb.size)
 have hzone:(bV.map bv).all (·.oneCell')=true:=rfl
 have oR:=eM oM aR DC
 have K0:dX R w W:=dX.ofBelow bW
 have hGw2:w.heap.size≤G:=by omega
 clear bW
 revert hz W hW G hG aG aR oM hRG hGR hGw b0 hzone oR K0 hGw2;exact hk.out):p:=h (Hy k)
theorem Nb (fl:List UInt8) (hs:List (List UInt8)) (tot:Nat) (Ah:Option Addr) (nh ch:Nat) (Af:Option Addr) (nf cf R:Nat) (hnh:hs.length=nh) (hnf:fl.length=nf) (hnf2:nf≤10000) (_:nh≤10000) (w0:World) (_:Rd w0 Ah (eB hs)) (_:Rd w0 Af (fl.map bv)) (hBR:w0.heap.size≤R)
  (i d k:Nat) (_:i≤5000) (hk:k≤nh) (l:List (Nat × List UInt8)) (M:Value) (w:World) (hb:Below w0.heap.size w0 w) (hA:Av w R 178 (pV tot Ah nh ch Af nf cf d k M false)) (ho:w.ownsRow w0.heap.size 138 33 M l.length (rX l))
  (h:Int) (hd:8*nf≤d) (hd2:d≤8*nf):
  Calls prog 74 #[.pointer (some ⟨R,0,none⟩),(.int .i64 h),.int .i64 (i:Int)] w (eU tot Ah nh ch Af nf cf R w0 l w none):=by
 refine Xm2 ?_;try clear hA ho;intro hz W hW G hG aG aR oM hRG hGR hGw b0 hzone oR K0 hGw2
 have HN:=DG tot Ah nh ch Af nf cf d k R M false hd OM W aR
 replace hW:=Hy hW
 replace hG:=Hy hG
 replace hzone:=Hy hzone
 replace HN:=Hy HN
 replace hnh:=Hy hnh
 replace hnf:=Hy hnf
 replace oR:=Hy oR
 replace hd:=Hy hd
 go_enter func74,ntmps74
 go_upto_region 1 with fail
 rw[← hW.out,← hG.out]
 go_upto_region 2 with (go_at_call 76;refine HN.out.mono ?_;rintro e w1 ⟨rfl,a1,f1⟩)
 have g1:=f1.av aG hGR
 have b1:Below w0.heap.size w0 w1:=b0.trans (f1.b (fun j e=>by rw[e];exact hBR) b0.size)
 have o1:=bU oM f1 (fun j e h=>oR.out (by rw[e,h]))
 have c7:=a1.cell 7 _ rfl
 have K1:=K0.trans (dX.ofFr f1)
 clear HN aR aG oM b0 f1 K0
 go_wp2_with (first
  |((with_reducible refine wpList_build (.agg (bV.map bv).toArray) ?_ ?_);(go_simp;first|done|rfl))
  |((with_reducible refine SF b1 g1 hGw (bV.map bv) 32 ?_ ?_ ?_ (h1:=hzone.out));rfl;rfl;intro w9 a9 b9 k9 z9))
 exact Xc156
theorem Xc12 {p:Prop} (h:p:=by
 have jM:=dM hd
 replace hW:=Hy hW
 replace hG:=Hy hG
 replace hzone:=Hy hzone
 replace HN:=Hy HN
 replace hnh:=Hy hnh
 replace hnf:=Hy hnf
 replace oR:=Hy oR
 replace hd:=Hy hd
 go_enter func74,ntmps74
 go_upto_region 1 with fail
 rw[← hW.out,← hG.out]
 go_upto_region 2 with (go_at_call 76;refine HN.out.mono ?_;rintro e w1 ⟨rfl,a1,f1⟩)
 have g1:=f1.av aG hGR
 have b1:Below w0.heap.size w0 w1:=b0.trans (f1.b (fun j e=>by rw[e];exact hBR) b0.size)
 have o1:=bU oM f1 (fun j e h=>oR.out (by rw[e,h]))
 have c7:=a1.cell 7 _ rfl
 have K1:=K0.trans (dX.ofFr f1)
 clear HN aR aG oM b0 f1 K0
 go_upto_region 5 with fail
 refine ZR ?_
 repeat refine ZP (fun w hw=>by have:=(a1.b hw.drew).cell 5 _ rfl;have:=(a1.b hw.drew).cell 1 _ rfl;exact zG) ?_
 refine bO fun w2 hw2=>aF ?_
 have e2:=hw2.drew
 have a2:=a1.b e2
 have g2:=g1.b e2
 have b2:=b1.trans (e2.mono b1.size)
 have f7:=frozen_of_row _ _ 7 _ _ a2
 have d7:=a2.cell 7 _ rfl
 have a3:=a2.set 7 (.bool true)
 have g3:=g2.other ⟨R,7,none⟩ (.bool true) hGR
 have b3:=b2.setCell (p:=⟨R,7,none⟩) hBR (.bool true)
 have K3:=(K1.trans (dX.ofBelow e2)).setR (i:=7) (.bool true)
 replace a3:=Hy a3
 clear c7
 go_wp2_with (first
  |((with_reducible refine wpList_build (.agg (bV.map bv).toArray) ?_ ?_);(go_simp;first|done|rfl))
  |((with_reducible refine SF b3 g3 hGw (bV.map bv) 32 ?_ ?_ ?_ (h1:=hzone.out));rfl;rfl;intro w9 a9 b9 k9 z9))
 refine bodyPost_ret (results_cell_row rfl _ _ G _ _ (0,0) _ rfl a9 SS rfl KR) rfl ⟨b9,K3.store hGw2 k9 z9,rfl,d+1,k,M,by have:=jM;rw[hnf.out] at this;omega,hk,a3.out.same (k9 R hRG)⟩):p:=h
theorem DJ (fl:List UInt8) (hs:List (List UInt8)) (tot:Nat) (Ah:Option Addr) (nh ch:Nat) (Af:Option Addr) (nf cf R:Nat) (hnh:hs.length=nh) (hnf:fl.length=nf) (hnf2:nf≤10000) (_:nh≤10000) (w0:World) (_:Rd w0 Ah (eB hs)) (hrf:Rd w0 Af (fl.map bv)) (hBR:w0.heap.size≤R)
  (i d k:Nat) (_:i≤5000) (hk:k≤nh) (l:List (Nat × List UInt8)) (M:Value) (w:World) (hb:Below w0.heap.size w0 w) (hA:Av w R 178 (pV tot Ah nh ch Af nf cf d k M false)) (ho:w.ownsRow w0.heap.size 138 33 M l.length (rX l))
  (hd:fX fl d=some false) (hkn:nh≤k):
  Calls prog 74 #[.pointer (some ⟨R,0,none⟩),(.int .i64 0),.int .i64 (i:Int)] w (eU tot Ah nh ch Af nf cf R w0 l w none):=by
 refine Xm2 ?_;try clear hA ho;intro hz W hW G hG aG aR oM hRG hGR hGw b0 hzone oR K0 hGw2
 have tk:decide ((nh:Int)≤(k:Int))=true:=by simp;omega
 have HN:=sH fl false tot Ah nh ch Af nf cf d k R M false hnf hnf2 hd (by have:=dM hd;omega) W aR (hrf.b b0)
 exact Xc12
theorem Xc77 {p:Prop} (h:p:=by
 go_wp2_with (first
  |((with_reducible refine LF x5 32 xv.out SS ?_ ?_);rfl)
  |((with_reducible refine SF b5 g5 hGw (x.map bv) 32 ?_ ?_ ?_ (hn:=xv.out) (h1:=xone.out));rfl;rfl;intro w9 a9 b9 k9 z9))
 refine bodyPost_ret (results_cell_row rfl _ _ G _ _ (0,0) _ rfl a9 SS rfl (by rw[List.size_toArray,xv.out];kernel_rfl)) rfl ⟨b9,K5.store hGw2 k9 z9,rfl,M,a5.same (k9 R hRG),?_⟩
 rw[List.length_nil,List.append_nil,Nat.add_zero]
 exact bU o5 (Of k9 z9 b5 b9) (fun j e h=>oG5 (by rw[e,h]))):p:=h
theorem KT (fl:List UInt8) (hs:List (List UInt8)) (tot:Nat) (Ah:Option Addr) (nh ch:Nat) (Af:Option Addr) (nf cf R:Nat) (hnh:hs.length=nh) (hnf:fl.length=nf) (hnf2:nf≤10000) (hnh2:nh≤10000) (w0:World) (hrh:Rd w0 Ah (eB hs)) (hrf:Rd w0 Af (fl.map bv)) (hBR:w0.heap.size≤R)
  (i d k:Nat) (_:i≤5000) (_:k≤nh) (l:List (Nat × List UInt8)) (M:Value) (w:World) (hb:Below w0.heap.size w0 w) (hA:Av w R 178 (pV tot Ah nh ch Af nf cf d k M false)) (ho:w.ownsRow w0.heap.size 138 33 M l.length (rX l))
  (hd:fX fl d=some false) (h32:dV hs) (x:List UInt8) (hx:hs[k]? =some x):
  Calls prog 74 #[.pointer (some ⟨R,0,none⟩),(.int .i64 0),.int .i64 (i:Int)] w (eU tot Ah nh ch Af nf cf R w0 l w (some ⟨x,[],d+1,k+1⟩)):=by
 refine Xm2 ?_;try clear hA ho;intro hz W hW G hG aG aR oM hRG hGR hGw b0 hzone oR K0 hGw2
 obtain⟨hkl,hxe⟩:=List.getElem?_eq_some_iff.1 hx
 have x32:x.length=32:=h32 x (by rw[← hxe];exact List.getElem_mem hkl)
 have hgd:hs.getD k []=x:=by rw[List.getD_eq_getElem?_getD,hx];rfl
 have hkn:k<nh:=by omega
 have tk:decide ((nh:Int)≤(k:Int))=false:=by simp;omega
 have n0:0≤(k:Int):=by omega
 have n1:(k:Int)<(nh:Int):=by omega
 obtain⟨bb,off,e⟩:=hrh.someA (uV h32 OM)
 subst e
 have hrx:=Hy (fun w' (hE:Below w0.heap.size w0 w')=>hgd ▸ (hrh.b hE).hash h32 k OM)
 have xv:(x.map bv).length=32:=by rw[List.length_map,x32]
 have xone:(x.map bv).all (·.oneCell')=true:=List.all_eq_true.2 (dB x)
 replace xone:=Hy xone
 replace xv:=Hy xv
 replace x32:=Hy x32
 replace hxe:=Hy hxe
 replace hgd:=Hy hgd
 replace hx:=Hy hx
 have HN:=sH fl false tot (some ⟨bb,off,none⟩) nh ch Af nf cf d k R M false hnf hnf2 hd (by have:=dM hd;omega) W aR (hrf.b b0)
 have jM:=dM hd
 replace hW:=Hy hW
 replace hG:=Hy hG
 replace hzone:=Hy hzone
 replace HN:=Hy HN
 replace hnh:=Hy hnh
 replace hnf:=Hy hnf
 replace oR:=Hy oR
 replace hd:=Hy hd
 go_enter func74,ntmps74
 go_upto_region 1 with fail
 rw[← hW.out,← hG.out]
 go_upto_region 2 with (go_at_call 76;refine HN.out.mono ?_;rintro e w1 ⟨rfl,a1,f1⟩)
 have g1:=f1.av aG hGR
 have b1:Below w0.heap.size w0 w1:=b0.trans (f1.b (fun j e=>by rw[e];exact hBR) b0.size)
 have o1:=bU oM f1 (fun j e h=>oR.out (by rw[e,h]))
 have hw1g:G<w1.heap.size:=g1.lt
 have c7:=a1.cell 7 _ rfl
 have K1:=K0.trans (dX.ofFr f1)
 clear HN aR aG oM b0 f1 K0
 go_upto_region 5 with fail
 refine ZR ?_
 repeat refine ZP (fun w hw=>by have:=(a1.b hw.drew).cell 5 _ rfl;have:=(a1.b hw.drew).cell 1 _ rfl;exact zG) ?_
 refine bO fun w2 hw2=>aF ?_
 have e2:=hw2.drew
 have a2:=a1.b e2
 have g2:=g1.b e2
 have o2:=aJ o1 e2
 have b2:=b1.trans (e2.mono b1.size)
 have hw2g:G<w2.heap.size:=g2.lt
 have K2:=K1.trans (dX.ofBelow e2)
 clear c7 a1 g1 o1 b1
 go_upto_region 8 with fail
 have H1:∀ w',cI w2.drew w'→Below w0.heap.size w0 w':=fun w' hE=>b2.trans (hE.drew.mono b2.size)
 refine bL 12 [(11,KQ w2.heap.size)] cI KR KR KR KR KR cI.refl cI.trans (by intro p hp v w w' hR;simp only[List.mem_singleton] at hp;subst hp;exact KQ.mono hR) ?_
 repeat first|refine ZP (fun w hw=>by have:=(a2.b hw.drew).cell 1 _ rfl;have:=(a2.b hw.drew).cell 5 _ rfl;exact zG) ?_|refine ZP (c:=.agg (cK x)) (fun w hw=>bJ _ _ rfl bb (off+k*32) rfl (x.map bv) _ (hrx.out w (H1 w hw)) SS rfl (by rw[xv.out];kernel_rfl)) ?_
 refine cO _ rfl (fun w' hw=>aM rfl (bI rfl ?_)) ?_
 ·rw[Cb _ rfl]
  exact⟨(Below.refl _ _).alloc LR _,w'.heap.size,rfl,by have:=hw.drew.size;omega,heap_alloc_new _ _⟩
 refine bO fun w3 hw3=>aC rfl rfl fun v hv=>aF ?_
 simp only[List.set_cons_succ,List.set_cons_zero,List.drop_succ_cons,List.drop_zero]
 obtain⟨X,rfl,hX,aX⟩:=hv
 have e3:=hw3.drew
 have a3:=a2.b e3
 have g3:=g2.b e3
 have o3:=aJ o2 e3
 have K3:=K2.trans (dX.ofBelow e3)
 have hXw2:w.heap.size≤X:=by omega
 have b3:=b2.trans (e3.mono b2.size)
 have hXG:X≠G:=by omega
 have hXR:X≠R:=by have:=a2.lt;omega
 have hXw:w0.heap.size≤X:=by have:=b2.size;omega
 have oX:M.ownBlock≠some X:=fun e=>by have:=(World.ownsRow.lt o2 X e).2;omega
 clear a2 g2 o2 b2 H1 hw3 e3
 go_upto_region 9 with ((with_reducible refine SF b3 aX hXw (x.map bv) 32 ?_ ?_ ?_ (hn:=xv.out) (h1:=xone.out));rfl;rfl;intro w4 aX4 b4 k4 z4)
 have a4:=a3.same (k4 R (Ne.symm hXR))
 have g4:=g3.same (k4 G (Ne.symm hXG))
 have o4:=bU o3 (Of k4 z4 b3 b4) (fun j e h=>oX (by rw[e,h]))
 have K4:=K3.store hXw2 k4 z4
 have K5:=K4.setR (i:=5) (.int .i64 ((k:Int)+1))
 clear a3 g3 o3 b3 aX k4 z4 K3 K4 K2
 have c5:=a4.cell 5 _ rfl
 have f5:=frozen_of_row _ _ 5 _ _ a4
 have oG5:M.ownBlock≠some G:=eM o4 g4 DC
 have a5:=a4.set 5 (.int .i64 ((k:Int)+1))
 have g5:=g4.other ⟨R,5,none⟩ (.int .i64 ((k:Int)+1)) hGR
 have x5:=aX4.other ⟨R,5,none⟩ (.int .i64 ((k:Int)+1)) hXR
 have b5:=b4.setCell (p:=⟨R,5,none⟩) hBR (.int .i64 ((k:Int)+1))
 have o5:=bU o4 (Fr.setCell w4 ⟨R,5,none⟩ (.int .i64 ((k:Int)+1))) (fun j e h=>oR.out (by rw[e,h]))
 exact Xc77
theorem DK (fl:List UInt8) (hs:List (List UInt8)) (tot:Nat) (Ah:Option Addr) (nh ch:Nat) (Af:Option Addr) (nf cf R:Nat) (hnh:hs.length=nh) (hnf:fl.length=nf) (hnf2:nf≤10000) (_:nh≤10000) (w0:World) (_:Rd w0 Ah (eB hs)) (hrf:Rd w0 Af (fl.map bv)) (hBR:w0.heap.size≤R)
  (i d k:Nat) (_:i≤5000) (hk:k≤nh) (l:List (Nat × List UInt8)) (M:Value) (w:World) (hb:Below w0.heap.size w0 w) (hA:Av w R 178 (pV tot Ah nh ch Af nf cf d k M false)) (ho:w.ownsRow w0.heap.size 138 33 M l.length (rX l))
  (hd:fX fl d=some false) (h':Nat) (hkn:nh≤k):
  Calls prog 74 #[.pointer (some ⟨R,0,none⟩),(.int .i64 ((h':Int)+1)),.int .i64 (i:Int)] w (eU tot Ah nh ch Af nf cf R w0 l w none):=by
 refine Xm2 ?_;try clear hA ho;intro hz W hW G hG aG aR oM hRG hGR hGw b0 hzone oR K0 hGw2
 have th:((h':Int)+1==0)=false:=by simp;omega
 have tk:decide ((nh:Int)≤(k:Int))=true:=by simp;omega
 have HN:=sH fl false tot Ah nh ch Af nf cf d k R M false hnf hnf2 hd (by have:=dM hd;omega) W aR (hrf.b b0)
 exact Xc12
theorem KU (fl:List UInt8) (hs:List (List UInt8)) (tot:Nat) (Ah:Option Addr) (nh ch:Nat) (Af:Option Addr) (nf cf R:Nat) (hnh:hs.length=nh) (hnf:fl.length=nf) (hnf2:nf≤10000) (hnh2:nh≤10000) (w0:World) (hrh:Rd w0 Ah (eB hs)) (hrf:Rd w0 Af (fl.map bv)) (hBR:w0.heap.size≤R)
  (i d k:Nat) (_:i≤5000) (_:k≤nh) (l:List (Nat × List UInt8)) (M:Value) (w:World) (hb:Below w0.heap.size w0 w) (hA:Av w R 178 (pV tot Ah nh ch Af nf cf d k M false)) (ho:w.ownsRow w0.heap.size 138 33 M l.length (rX l))
  (hd:fX fl d=some false) (h':Nat) (h32:dV hs) (x:List UInt8) (hx:hs[k]? =some x):
  Calls prog 74 #[.pointer (some ⟨R,0,none⟩),(.int .i64 ((h':Int)+1)),.int .i64 (i:Int)] w (eU tot Ah nh ch Af nf cf R w0 l w (some ⟨x,[],d+1,k+1⟩)):=by
 refine Xm2 ?_;try clear hA ho;intro hz W hW G hG aG aR oM hRG hGR hGw b0 hzone oR K0 hGw2
 have th:((h':Int)+1==0)=false:=by simp;omega
 obtain⟨hkl,hxe⟩:=List.getElem?_eq_some_iff.1 hx
 have x32:x.length=32:=h32 x (by rw[← hxe];exact List.getElem_mem hkl)
 have hgd:hs.getD k []=x:=by rw[List.getD_eq_getElem?_getD,hx];rfl
 have hkn:k<nh:=by omega
 have tk:decide ((nh:Int)≤(k:Int))=false:=by simp;omega
 have n0:0≤(k:Int):=by omega
 have n1:(k:Int)<(nh:Int):=by omega
 obtain⟨bb,off,e⟩:=hrh.someA (uV h32 OM)
 subst e
 have hrx:=Hy (fun w' (hE:Below w0.heap.size w0 w')=>hgd ▸ (hrh.b hE).hash h32 k OM)
 have xv:(x.map bv).length=32:=by rw[List.length_map,x32]
 have xone:(x.map bv).all (·.oneCell')=true:=List.all_eq_true.2 (dB x)
 replace xone:=Hy xone
 replace xv:=Hy xv
 replace x32:=Hy x32
 replace hxe:=Hy hxe
 replace hgd:=Hy hgd
 replace hx:=Hy hx
 have HN:=sH fl false tot (some ⟨bb,off,none⟩) nh ch Af nf cf d k R M false hnf hnf2 hd (by have:=dM hd;omega) W aR (hrf.b b0)
 have jM:=dM hd
 replace hW:=Hy hW
 replace hG:=Hy hG
 replace hzone:=Hy hzone
 replace HN:=Hy HN
 replace hnh:=Hy hnh
 replace hnf:=Hy hnf
 replace oR:=Hy oR
 replace hd:=Hy hd
 go_enter func74,ntmps74
 go_upto_region 1 with fail
 rw[← hW.out,← hG.out]
 go_upto_region 2 with (go_at_call 76;refine HN.out.mono ?_;rintro e w1 ⟨rfl,a1,f1⟩)
 have g1:=f1.av aG hGR
 have b1:Below w0.heap.size w0 w1:=b0.trans (f1.b (fun j e=>by rw[e];exact hBR) b0.size)
 have o1:=bU oM f1 (fun j e h=>oR.out (by rw[e,h]))
 have hw1g:G<w1.heap.size:=g1.lt
 have c7:=a1.cell 7 _ rfl
 have K1:=K0.trans (dX.ofFr f1)
 clear HN aR aG oM b0 f1 K0
 go_upto_region 5 with fail
 refine ZR ?_
 repeat refine ZP (fun w hw=>by have:=(a1.b hw.drew).cell 5 _ rfl;have:=(a1.b hw.drew).cell 1 _ rfl;exact zG) ?_
 refine bO fun w2 hw2=>aF ?_
 have e2:=hw2.drew
 have a2:=a1.b e2
 have g2:=g1.b e2
 have o2:=aJ o1 e2
 have b2:=b1.trans (e2.mono b1.size)
 have hw2g:G<w2.heap.size:=g2.lt
 have K2:=K1.trans (dX.ofBelow e2)
 clear c7 a1 g1 o1 b1
 go_upto_region 8 with fail
 have H1:∀ w',cI w2.drew w'→Below w0.heap.size w0 w':=fun w' hE=>b2.trans (hE.drew.mono b2.size)
 refine bL 12 [(11,KQ w2.heap.size)] cI KR KR KR KR KR cI.refl cI.trans (by intro p hp v w w' hR;simp only[List.mem_singleton] at hp;subst hp;exact KQ.mono hR) ?_
 repeat first|refine ZP (fun w hw=>by have:=(a2.b hw.drew).cell 1 _ rfl;have:=(a2.b hw.drew).cell 5 _ rfl;exact zG) ?_|refine ZP (c:=.agg (cK x)) (fun w hw=>bJ _ _ rfl bb (off+k*32) rfl (x.map bv) _ (hrx.out w (H1 w hw)) SS rfl (by rw[xv.out];kernel_rfl)) ?_
 refine cO _ rfl (fun w' hw=>aM rfl (bI rfl ?_)) ?_
 ·rw[Cb _ rfl]
  exact⟨(Below.refl _ _).alloc LR _,w'.heap.size,rfl,by have:=hw.drew.size;omega,heap_alloc_new _ _⟩
 refine bO fun w3 hw3=>aC rfl rfl fun v hv=>aF ?_
 simp only[List.set_cons_succ,List.set_cons_zero,List.drop_succ_cons,List.drop_zero]
 obtain⟨X,rfl,hX,aX⟩:=hv
 have e3:=hw3.drew
 have a3:=a2.b e3
 have g3:=g2.b e3
 have o3:=aJ o2 e3
 have K3:=K2.trans (dX.ofBelow e3)
 have hXw2:w.heap.size≤X:=by omega
 have b3:=b2.trans (e3.mono b2.size)
 have hXG:X≠G:=by omega
 have hXR:X≠R:=by have:=a2.lt;omega
 have hXw:w0.heap.size≤X:=by have:=b2.size;omega
 have oX:M.ownBlock≠some X:=fun e=>by have:=(World.ownsRow.lt o2 X e).2;omega
 clear a2 g2 o2 b2 H1 hw3 e3
 go_upto_region 9 with ((with_reducible refine SF b3 aX hXw (x.map bv) 32 ?_ ?_ ?_ (hn:=xv.out) (h1:=xone.out));rfl;rfl;intro w4 aX4 b4 k4 z4)
 have a4:=a3.same (k4 R (Ne.symm hXR))
 have g4:=g3.same (k4 G (Ne.symm hXG))
 have o4:=bU o3 (Of k4 z4 b3 b4) (fun j e h=>oX (by rw[e,h]))
 have K4:=K3.store hXw2 k4 z4
 have K5:=K4.setR (i:=5) (.int .i64 ((k:Int)+1))
 clear a3 g3 o3 b3 aX k4 z4 K3 K4 K2
 have c5:=a4.cell 5 _ rfl
 have f5:=frozen_of_row _ _ 5 _ _ a4
 have oG5:M.ownBlock≠some G:=eM o4 g4 DC
 have a5:=a4.set 5 (.int .i64 ((k:Int)+1))
 have g5:=g4.other ⟨R,5,none⟩ (.int .i64 ((k:Int)+1)) hGR
 have x5:=aX4.other ⟨R,5,none⟩ (.int .i64 ((k:Int)+1)) hXR
 have b5:=b4.setCell (p:=⟨R,5,none⟩) hBR (.int .i64 ((k:Int)+1))
 have o5:=bU o4 (Fr.setCell w4 ⟨R,5,none⟩ (.int .i64 ((k:Int)+1))) (fun j e h=>oR.out (by rw[e,h]))
 exact Xc77
theorem DL (fl:List UInt8) (hs:List (List UInt8)) (tot:Nat) (Ah:Option Addr) (nh ch:Nat) (Af:Option Addr) (nf cf R:Nat) (hnh:hs.length=nh) (hnf:fl.length=nf) (hnf2:nf≤10000) (_:nh≤10000) (w0:World) (_:Rd w0 Ah (eB hs)) (hrf:Rd w0 Af (fl.map bv)) (hBR:w0.heap.size≤R)
  (i d k:Nat) (_:i≤5000) (hk:k≤nh) (l:List (Nat × List UInt8)) (M:Value) (w:World) (hb:Below w0.heap.size w0 w) (hA:Av w R 178 (pV tot Ah nh ch Af nf cf d k M false)) (ho:w.ownsRow w0.heap.size 138 33 M l.length (rX l))
  (hd:fX fl d=some true) (hkn:nh≤k):
  Calls prog 74 #[.pointer (some ⟨R,0,none⟩),(.int .i64 0),.int .i64 (i:Int)] w (eU tot Ah nh ch Af nf cf R w0 l w none):=by
 refine Xm2 ?_;try clear hA ho;intro hz W hW G hG aG aR oM hRG hGR hGw b0 hzone oR K0 hGw2
 have tk:decide ((nh:Int)≤(k:Int))=true:=by simp;omega
 have HN:=sH fl true tot Ah nh ch Af nf cf d k R M false hnf hnf2 hd (by have:=dM hd;omega) W aR (hrf.b b0)
 exact Xc12
theorem KV (fl:List UInt8) (hs:List (List UInt8)) (tot:Nat) (Ah:Option Addr) (nh ch:Nat) (Af:Option Addr) (nf cf R:Nat) (hnh:hs.length=nh) (hnf:fl.length=nf) (hnf2:nf≤10000) (hnh2:nh≤10000) (w0:World) (hrh:Rd w0 Ah (eB hs)) (hrf:Rd w0 Af (fl.map bv)) (hBR:w0.heap.size≤R)
  (i d k:Nat) (_:i≤5000) (_:k≤nh) (l:List (Nat × List UInt8)) (M:Value) (w:World) (hb:Below w0.heap.size w0 w) (hA:Av w R 178 (pV tot Ah nh ch Af nf cf d k M false)) (ho:w.ownsRow w0.heap.size 138 33 M l.length (rX l))
  (hd:fX fl d=some true) (hlk:l.length≤k) (h32:dV hs) (x:List UInt8) (hx:hs[k]? =some x):
  Calls prog 74 #[.pointer (some ⟨R,0,none⟩),(.int .i64 0),.int .i64 (i:Int)] w (eU tot Ah nh ch Af nf cf R w0 l w (some ⟨x,[(i,x)],d+1,k+1⟩)):=by
 refine Xm2 ?_;try clear hA ho;intro hz W hW G hG aG aR oM hRG hGR hGw b0 hzone oR K0 hGw2
 obtain⟨hkl,hxe⟩:=List.getElem?_eq_some_iff.1 hx
 have x32:x.length=32:=h32 x (by rw[← hxe];exact List.getElem_mem hkl)
 have hgd:hs.getD k []=x:=by rw[List.getD_eq_getElem?_getD,hx];rfl
 have hkn:k<nh:=by omega
 have tk:decide ((nh:Int)≤(k:Int))=false:=by simp;omega
 have n0:0≤(k:Int):=by omega
 have n1:(k:Int)<(nh:Int):=by omega
 obtain⟨bb,off,e⟩:=hrh.someA (uV h32 OM)
 subst e
 have hrx:=Hy (fun w' (hE:Below w0.heap.size w0 w')=>hgd ▸ (hrh.b hE).hash h32 k OM)
 have xv:(x.map bv).length=32:=by rw[List.length_map,x32]
 have xone:(x.map bv).all (·.oneCell')=true:=List.all_eq_true.2 (dB x)
 replace xone:=Hy xone
 replace xv:=Hy xv
 replace x32:=Hy x32
 replace hxe:=Hy hxe
 replace hgd:=Hy hgd
 replace hx:=Hy hx
 have HN:=sH fl true tot (some ⟨bb,off,none⟩) nh ch Af nf cf d k R M false hnf hnf2 hd (by have:=dM hd;omega) W aR (hrf.b b0)
 have jM:=dM hd
 replace hW:=Hy hW
 replace hG:=Hy hG
 replace hzone:=Hy hzone
 replace HN:=Hy HN
 replace hnh:=Hy hnh
 replace hnf:=Hy hnf
 replace oR:=Hy oR
 replace hd:=Hy hd
 go_enter func74,ntmps74
 go_upto_region 1 with fail
 rw[← hW.out,← hG.out]
 go_upto_region 2 with (go_at_call 76;refine HN.out.mono ?_;rintro e w1 ⟨rfl,a1,f1⟩)
 have g1:=f1.av aG hGR
 have b1:Below w0.heap.size w0 w1:=b0.trans (f1.b (fun j e=>by rw[e];exact hBR) b0.size)
 have o1:=bU oM f1 (fun j e h=>oR.out (by rw[e,h]))
 have hw1g:G<w1.heap.size:=g1.lt
 have c7:=a1.cell 7 _ rfl
 have K1:=K0.trans (dX.ofFr f1)
 clear HN aR aG oM b0 f1 K0
 go_upto_region 5 with fail
 refine ZR ?_
 repeat refine ZP (fun w hw=>by have:=(a1.b hw.drew).cell 5 _ rfl;have:=(a1.b hw.drew).cell 1 _ rfl;exact zG) ?_
 refine bO fun w2 hw2=>aF ?_
 have e2:=hw2.drew
 have a2:=a1.b e2
 have g2:=g1.b e2
 have o2:=aJ o1 e2
 have b2:=b1.trans (e2.mono b1.size)
 have hw2g:G<w2.heap.size:=g2.lt
 have K2:=K1.trans (dX.ofBelow e2)
 clear c7 a1 g1 o1 b1
 go_upto_region 8 with fail
 have H1:∀ w',cI w2.drew w'→Below w0.heap.size w0 w':=fun w' hE=>b2.trans (hE.drew.mono b2.size)
 refine bL 12 [(11,KQ w2.heap.size)] cI KR KR KR KR KR cI.refl cI.trans (by intro p hp v w w' hR;simp only[List.mem_singleton] at hp;subst hp;exact KQ.mono hR) ?_
 repeat first|refine ZP (fun w hw=>by have:=(a2.b hw.drew).cell 1 _ rfl;have:=(a2.b hw.drew).cell 5 _ rfl;exact zG) ?_|refine ZP (c:=.agg (cK x)) (fun w hw=>bJ _ _ rfl bb (off+k*32) rfl (x.map bv) _ (hrx.out w (H1 w hw)) SS rfl (by rw[xv.out];kernel_rfl)) ?_
 refine cO _ rfl (fun w' hw=>aM rfl (bI rfl ?_)) ?_
 ·rw[Cb _ rfl]
  exact⟨(Below.refl _ _).alloc LR _,w'.heap.size,rfl,by have:=hw.drew.size;omega,heap_alloc_new _ _⟩
 refine bO fun w3 hw3=>aC rfl rfl fun v hv=>aF ?_
 simp only[List.set_cons_succ,List.set_cons_zero,List.drop_succ_cons,List.drop_zero]
 obtain⟨X,rfl,hX,aX⟩:=hv
 have e3:=hw3.drew
 have a3:=a2.b e3
 have g3:=g2.b e3
 have o3:=aJ o2 e3
 have K3:=K2.trans (dX.ofBelow e3)
 have hXw2:w.heap.size≤X:=by omega
 have b3:=b2.trans (e3.mono b2.size)
 have hXG:X≠G:=by omega
 have hXR:X≠R:=by have:=a2.lt;omega
 have hXw:w0.heap.size≤X:=by have:=b2.size;omega
 have oX:M.ownBlock≠some X:=fun e=>by have:=(World.ownsRow.lt o2 X e).2;omega
 clear a2 g2 o2 b2 H1 hw3 e3
 go_upto_region 9 with ((with_reducible refine SF b3 aX hXw (x.map bv) 32 ?_ ?_ ?_ (hn:=xv.out) (h1:=xone.out));rfl;rfl;intro w4 aX4 b4 k4 z4)
 have a4:=a3.same (k4 R (Ne.symm hXR))
 have g4:=g3.same (k4 G (Ne.symm hXG))
 have o4:=bU o3 (Of k4 z4 b3 b4) (fun j e h=>oX (by rw[e,h]))
 have K4:=K3.store hXw2 k4 z4
 have K5:=K4.setR (i:=5) (.int .i64 ((k:Int)+1))
 clear a3 g3 o3 b3 aX k4 z4 K3 K4 K2
 have c5:=a4.cell 5 _ rfl
 have f5:=frozen_of_row _ _ 5 _ _ a4
 have oG5:M.ownBlock≠some G:=eM o4 g4 DC
 have a5:=a4.set 5 (.int .i64 ((k:Int)+1))
 have g5:=g4.other ⟨R,5,none⟩ (.int .i64 ((k:Int)+1)) hGR
 have x5:=aX4.other ⟨R,5,none⟩ (.int .i64 ((k:Int)+1)) hXR
 have b5:=b4.setCell (p:=⟨R,5,none⟩) hBR (.int .i64 ((k:Int)+1))
 have o5:=bU o4 (Fr.setCell w4 ⟨R,5,none⟩ (.int .i64 ((k:Int)+1))) (fun j e h=>oR.out (by rw[e,h]))
 go_upto_region 11 with fail
 generalize w4.setCell ⟨R,5,none⟩ (.int .i64 ((k:Int)+1))=w5 at*
 clear c5 f5 a4 g4 aX4 b4 o4
 obtain⟨nl,hnl⟩:=Nm (l.length)
 have hnl5:nl≤10000:=by have:=hlk;omega
 rw[← hnl] at o5
 replace hnl:=Hy hnl
 have hl33:(uX (i,x)).length=33:=rL x32.out
 have one33:=BQ (i,x)
 have hw5:=b5.size
 replace hl33:=Hy hl33
 replace one33:=Hy one33
 refine qN 9 9 [(8,fun v w'=>∃ g,v= .slice (some ⟨g,0,none⟩) 1 1∧w5.heap.size≤g∧Av w' g 138 (uX (i,x)))] cI KR (by simp only[fM,List.push_toArray,List.cons_append,List.nil_append];rfl) rfl DC KR KR (fun _ _ _ h=>h) KR KR KR KR cI.refl cI.trans (by
   intro p hp v w w' hR
   simp only[List.mem_singleton] at hp
   subst hp
   rintro⟨g,e,h1,h2⟩
   exact⟨g,e,h1,h2.b hR⟩) ?_
 repeat first|refine ZP (fun w hw=>by have:=(a5.b hw.drew).cell 6 _ rfl;exact zG) ?_|refine ZP (c:=.agg (cK x)) (fun w hw=>aE (x5.b hw.drew) _ _ rfl rfl _ 32 xv.out SS rfl KR) ?_|refine ZP (c:=.agg (uX (i,x)).toArray) (fun w hw=>yH i x x32.out rfl rfl rfl) ?_
 refine cO _ rfl (fun w hw=>aM rfl (bI rfl ?_)) ?_
 ·rw[lD underlying134 Gt Gu DC DC _ (uX (i,x)) hl33.out _ rfl rfl]
  exact⟨(Below.refl _ _).alloc LR _,_,rfl,hw.drew.size,heap_alloc_new _ _⟩
 refine bO fun w6 hw6=>aC rfl rfl fun v hv=>aF ?_
 obtain⟨q,rfl,hq,aq⟩:=hv
 simp only[List.set_cons_succ,List.set_cons_zero,List.drop_succ_cons,List.drop_zero]
 have e6:=hw6.drew
 have a6:=a5.b e6
 have g6:=g5.b e6
 have x6:=x5.b e6
 have o6:=aJ o5 e6
 have b6:=b5.trans (e6.mono b5.size)
 have hbs:=b6.size
 have hle:(nl+1)*40≤140737488355328:=by omega
 go_wp2_with (first
  |(at_builtin;refine bT underlying134 Gt Gu DC o6 hbs (uX (i,x)) 1 1 aq.rd (by rw[hl33.out]) one33.out OM hle rfl (.tmp 66) (.tmp 70) rfl rfl rfl ?_;intro M2 w7 o7 gr7 ob7;obtain⟨Aq,cq,rfl,hcq,_⟩:=cM o7;have T7:=kM.ofGrown o6 gr7;have a7:=T7.av a6 DC;have g7:=T7.av g6 DC;have x7:=T7.av x6 DC;have b7:=T7.b b6 LR hbs;have f6:=frozen_of_row _ _ 6 _ _ a7;have c6:=a7.cell 6 _ rfl;have g8:=g7.other ⟨R,6,none⟩ (.slice Aq (nl+1) cq) hGR;have x8:=x7.other ⟨R,6,none⟩ (.slice Aq (nl+1) cq) hXR;have b8:=b7.setCell (p:=⟨R,6,none⟩) hBR (.slice Aq (nl+1) cq))
  |((with_reducible refine LF x8 32 xv.out SS ?_ ?_);rfl)
  |((with_reducible refine SF b8 g8 hGw (x.map bv) 32 ?_ ?_ ?_ (hn:=xv.out) (h1:=xone.out));rfl;rfl;intro w9 a9 b9 k9 z9))
 have a8:=a7.set 6 (.slice Aq (nl+1) cq)
 have o8:=bU o7 (Fr.setCell w7 ⟨R,6,none⟩ (.slice Aq (nl+1) cq)) (fun j e h=>eM o7 a7 DC (by rw[e,h]))
 have oG8:=eM o8 g8 DC
 refine bodyPost_ret (results_cell_row rfl _ _ G _ _ (0,0) _ rfl a9 SS rfl (by rw[List.size_toArray,xv.out];kernel_rfl)) rfl ⟨b9,(((K5.trans (dX.ofBelow e6)).app T7 gr7.size).setR (i:=6) (.slice Aq (nl+1) cq)).store hGw2 k9 z9,rfl,.slice Aq (nl+1) cq,a8.same (k9 R hRG),?_⟩
 rw[List.length_singleton,← hnl.out,← Ds]
 exact bU o8 (Of k9 z9 b8 b9) (fun j e h=>oG8 (by rw[e,h]))
theorem Xm74 {p q:Prop} (k:q) (h:Hid q→p:=by
 intro hk
 have hz:=eK
 rw[show List.replicate 32 (0:UInt8)=bV from rfl] at hz
 obtain⟨W,hW⟩:=Nm (w.alloc (.cells (bV.map bv).toArray 35))
 obtain⟨G,hG⟩:=Nm (w.heap.size)
 have bW:Below w.heap.size w W:=by rw[hW];exact(Below.refl _ _).alloc LR _
 have aG:Av W G 35 (bV.map bv):=by rw[hW,hG];exact heap_alloc_new _ _
 have aR:=hA.b bW
 have hRG:R≠G:=by have:=hA.lt;omega
 have hGR:G≠R:=Ne.symm hRG
 have hGw:w0.heap.size≤G:=by rw[hG];exact hb.size
 have b0:Below w0.heap.size w0 W:=hb.trans (bW.mono hb.size)
 have hzone:(bV.map bv).all (·.oneCell')=true:=rfl
 have K0:dX R w W:=dX.ofBelow bW
 have hGw2:w.heap.size≤G:=by omega
 clear bW
 revert hz W hW G hG aG aR hRG hGR hGw b0 hzone K0 hGw2;exact hk.out):p:=h (Hy k)
theorem Nc (fl:List UInt8) (hs:List (List UInt8)) (tot:Nat) (Ah:Option Addr) (nh ch:Nat) (Af:Option Addr) (nf cf R:Nat) (hnh:hs.length=nh) (hnf:fl.length=nf) (hnf2:nf≤10000) (_:nh≤10000) (w0:World) (_:Rd w0 Ah (eB hs)) (_:Rd w0 Af (fl.map bv)) (hBR:w0.heap.size≤R)
  (i d k:Nat) (_:i≤5000) (hk:k≤nh) (l:List (Nat × List UInt8)) (M:Value) (w:World) (hb:Below w0.heap.size w0 w) (hA:Av w R 178 (pV tot Ah nh ch Af nf cf d k M true))
  (h:Int) (hd:8*nf≤d) (hd2:d≤8*nf):
  Calls prog 74 #[.pointer (some ⟨R,0,none⟩),(.int .i64 h),.int .i64 (i:Int)] w (eU tot Ah nh ch Af nf cf R w0 l w none):=by
 refine Xm74 ?_;try clear hA;intro hz W hW G hG aG aR hRG hGR hGw b0 hzone K0 hGw2
 have HN:=DG tot Ah nh ch Af nf cf d k R M true hd OM W aR
 replace hW:=Hy hW
 replace hG:=Hy hG
 replace hzone:=Hy hzone
 replace HN:=Hy HN
 replace hnh:=Hy hnh
 replace hnf:=Hy hnf
 replace hd:=Hy hd
 go_enter func74,ntmps74
 go_upto_region 1 with fail
 rw[← hW.out,← hG.out]
 go_upto_region 2 with (go_at_call 76;refine HN.out.mono ?_;rintro e w1 ⟨rfl,a1,f1⟩)
 have g1:=f1.av aG hGR
 have b1:Below w0.heap.size w0 w1:=b0.trans (f1.b (fun j e=>by rw[e];exact hBR) b0.size)
 have c7:=a1.cell 7 _ rfl
 have K1:=K0.trans (dX.ofFr f1)
 clear HN aR aG b0 f1 K0
 go_wp2_with (first
  |((with_reducible refine wpList_build (.agg (bV.map bv).toArray) ?_ ?_);(go_simp;first|done|rfl))
  |((with_reducible refine SF b1 g1 hGw (bV.map bv) 32 ?_ ?_ ?_ (h1:=hzone.out));rfl;rfl;intro w9 a9 b9 k9 z9))
 exact Xc156
theorem Nf (fl:List UInt8) (hs:List (List UInt8)) (tot:Nat) (Ah:Option Addr) (nh ch:Nat) (Af:Option Addr) (nf cf R:Nat) (hnh:hs.length=nh) (hnf:fl.length=nf) (hnf2:nf≤10000) (_:nh≤10000) (w0:World) (_:Rd w0 Ah (eB hs)) (hrf:Rd w0 Af (fl.map bv)) (hBR:w0.heap.size≤R)
  (i d k:Nat) (_:i≤5000) (hk:k≤nh) (l:List (Nat × List UInt8)) (M:Value) (w:World) (hb:Below w0.heap.size w0 w) (hA:Av w R 178 (pV tot Ah nh ch Af nf cf d k M true))
  (h:Int) (b:Bool) (hd:fX fl d=some b):
  Calls prog 74 #[.pointer (some ⟨R,0,none⟩),(.int .i64 h),.int .i64 (i:Int)] w (eU tot Ah nh ch Af nf cf R w0 l w none):=by
 refine Xm74 ?_;try clear hA;intro hz W hW G hG aG aR hRG hGR hGw b0 hzone K0 hGw2
 have HN:=sH fl b tot Ah nh ch Af nf cf d k R M true hnf hnf2 hd (by have:=dM hd;omega) W aR (hrf.b b0)
 have jM:=dM hd
 replace hW:=Hy hW
 replace hG:=Hy hG
 replace hzone:=Hy hzone
 replace HN:=Hy HN
 replace hnh:=Hy hnh
 replace hnf:=Hy hnf
 replace hd:=Hy hd
 go_enter func74,ntmps74
 go_upto_region 1 with fail
 rw[← hW.out,← hG.out]
 go_upto_region 2 with (go_at_call 76;refine HN.out.mono ?_;rintro e w1 ⟨rfl,a1,f1⟩)
 have g1:=f1.av aG hGR
 have b1:Below w0.heap.size w0 w1:=b0.trans (f1.b (fun j e=>by rw[e];exact hBR) b0.size)
 have c7:=a1.cell 7 _ rfl
 have K1:=K0.trans (dX.ofFr f1)
 clear HN aR aG b0 f1 K0
 go_wp2_with (first
  |((with_reducible refine wpList_build (.agg (bV.map bv).toArray) ?_ ?_);(go_simp;first|done|rfl))
  |((with_reducible refine SF b1 g1 hGw (bV.map bv) 32 ?_ ?_ ?_ (h1:=hzone.out));rfl;rfl;intro w9 a9 b9 k9 z9))
 refine bodyPost_ret (results_cell_row rfl _ _ G _ _ (0,0) _ rfl a9 SS rfl KR) rfl ⟨b9,K1.store hGw2 k9 z9,rfl,d+1,k,M,by have:=jM;rw[hnf.out] at this;omega,hk,a1.same (k9 R hRG)⟩
end Go.Proofs.YtobjgebojhjhnaaGreatDoor
