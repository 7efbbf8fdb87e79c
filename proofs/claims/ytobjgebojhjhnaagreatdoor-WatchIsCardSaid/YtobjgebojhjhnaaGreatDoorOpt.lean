import Derived.Test.YtobjgebojhjhnaaGreatDoorOpb
import Derived.Test.YtobjgebojhjhnaaGreatDoorQr6
import Derived.Lib.SmallJoins
namespace Go.Proofs.YtobjgebojhjhnaaGreatDoor
open Go.RowKit Tryz Go.ChangeShapes Go.WideShapes Go.ChangeAt
instance:Inhabited (lI × Sl):=⟨(⟨[],0,[],0⟩,(none,0))⟩
instance:Inhabited (fA × Sl):=⟨(⟨0,[]⟩,(none,0))⟩
section
variable {H:Type} {enc:TypeId × Value→H} {w:World} {base:Nat} {spare:Nat→Bool} {held:Bool}
theorem DX:prog.cellsOf 97=35:=by kernel_rfl
theorem AO:prog.cellsOf 98=2:=by kernel_rfl
theorem AP:prog.cellsOf 28=1:=by kernel_rfl
theorem Iz:prog.cellsOf 92=1:=by kernel_rfl
theorem DY:prog.cellsOf 27=1:=by kernel_rfl
theorem pX {cs:List Value} {i:Nat} {v:Value} (h:(cs.drop i).take 1= [v]):cs[i]? =some v:=by
 have:((cs.drop i).take 1)[0]? =some v:=by rw[h];rfl
 simpa using this
theorem qY {fuel:Nat} {cs:List Value} {x:DataW H × List MemPlace} (h:DataW.trod enc prog w base spare held fuel 27 cs=some x):∃ (bs:List UInt8) (A:Option Addr) (c:Nat),cs= [.slice A bs.length c]∧bs.length≤c∧Rd w A (bs.map bv):=by
 have cK:∃ A n c,cs= [.slice A n c]:=by
  rcases Go.Deep.open_slice Tc h with ⟨cK,_⟩|⟨a,len,cap,m,k,D,Pl,cK,_⟩
  ·exact⟨none,0,0,cK⟩
  ·exact⟨_,_,_,cK⟩
 obtain⟨A,n,c,rfl⟩:=cK
 obtain⟨bs,h1,h2,_,h4⟩:=pR h
 exact⟨bs,A,c,by rw[h1],by omega,h4⟩
theorem Nz (fuel:Nat) (cs:List Value) (y:DataW H × List MemPlace) (h:DataW.trod enc prog w base spare held fuel 97 cs=some y):∃ x:lI × Sl,cs=sB x∧BF w x:=by
 obtain⟨y0,y1,y2,y3,n,_,hl,h0,h1,h2,h3⟩:=Go.Joins.trod_struct4 underlying97 h
 rw[DX] at hl
 dsimp only at h0 h1 h2 h3
 rw[tX] at h0
 rw[AP] at h1 h3
 rw[DY] at h2
 obtain⟨p,hp,e0⟩:=kU h0
 obtain⟨i,e1,_,w1⟩:=DataW.trod_int Tp h1
 obtain⟨s,A,c,e2,hc,hr⟩:=qY h2
 obtain⟨q,e3,_,w3⟩:=DataW.trod_int Tp h3
 have b1:0≤i∧i≤4294967295:=by simpa [Lit.wf,IntKind.min,IntKind.max,IntKind.signed,IntKind.bits] using w1
 have b3:0≤q∧q≤4294967295:=by simpa [Lit.wf,IntKind.min,IntKind.max,IntKind.signed,IntKind.bits] using w3
 refine⟨(⟨p,i.toNat,s,q.toNat⟩,(A,c)),?_,⟨hp,by show i.toNat<4294967296;omega,by show q.toNat<4294967296;omega⟩,hr,hc⟩
 have g1:=pX e1
 have g2:=pX e2
 have g3:=pX e3
 have e0':cs.take 32=p.map bv:=by simpa using e0
 rw[← List.take_append_drop 32 cs,e0',sB]
 congr 1
 have hd:(cs.drop 32).length=3:=by rw[List.length_drop,hl]
 have k1:(cs.drop 32)[0]? =some (.int .u32 i):=by rw[List.getElem?_drop];exact g1
 have k2:(cs.drop 32)[1]? =some (.slice A s.length c):=by rw[List.getElem?_drop];exact g2
 have k3:(cs.drop 32)[2]? =some (.int .u32 q):=by rw[List.getElem?_drop];exact g3
 match cK:cs.drop 32,hd with
 | [a,b,d],_=>
  rw[cK] at k1 k2 k3
  simp only[List.getElem?_cons_zero,List.getElem?_cons_succ,Option.some.injEq] at k1 k2 k3
  rw[k1,k2,k3]
  rw[show ((i.toNat:Nat):Int)=i by omega,show ((q.toNat:Nat):Int)=q by omega]
theorem Lu (fuel:Nat) (cs:List Value) (y:DataW H × List MemPlace) (h:DataW.trod enc prog w base spare held fuel 98 cs=some y):∃ x:fA × Sl,cs=kB x∧xB w x:=by
 obtain⟨y0,y1,n,_,hl,h0,h1⟩:=trod_struct2 underlying98 h
 rw[AO] at hl
 dsimp only at h0 h1
 rw[Iz] at h0
 rw[DY] at h1
 obtain⟨i,e0,_,w0⟩:=DataW.trod_int underlying92 h0
 obtain⟨s,A,c,e1,hc,hr⟩:=qY h1
 have b0:0≤i∧i≤18446744073709551615:=by simpa [Lit.wf,IntKind.min,IntKind.max,IntKind.signed,IntKind.bits] using w0
 refine⟨(⟨i.toNat,s⟩,(A,c)),?_,by show i.toNat<18446744073709551616;omega,hr,hc⟩
 have g0:=pX e0
 have g1:=pX e1
 match cs,hl with
 | [a,b],_=>
  simp only[List.getElem?_cons_zero,List.getElem?_cons_succ,Option.some.injEq] at g0 g1
  rw[g0,g1,kB,show ((i.toNat:Nat):Int)=i by omega]
theorem NA {fuel:Nat} {cs:List Value} {y:DataW H × List MemPlace} (h:DataW.trod enc prog w base spare held fuel 32 cs=some y):
  ∃ (ver lock:Nat) (l:List (lI × Sl)) (m:List (fA × Sl)) (A1 A2:Option Addr) (n1 n2 c1 c2:Nat),cs= [.int .u32 (ver:Int),.slice A1 n1 c1,.slice A2 n2 c2,.int .u32 (lock:Int)]∧l.length=n1∧m.length=n2∧n1≤c1∧n2≤c2∧c1≤maxLen∧c2≤maxLen∧fB w A1 l∧dH w A2 m∧ver<4294967296∧lock<4294967296:=by
 obtain⟨y0,y1,y2,y3,n,_,hl,h0,h1,h2,h3⟩:=Go.Joins.trod_struct4 Ti h
 rw[show prog.cellsOf 32=4 by kernel_rfl] at hl
 dsimp only at h0 h1 h2 h3
 rw[AP] at h0 h3
 rw[show prog.cellsOf 29=1 by kernel_rfl] at h1
 rw[show prog.cellsOf 30=1 by kernel_rfl] at h2
 obtain⟨i,e0,_,w0⟩:=DataW.trod_int Tp h0
 obtain⟨q,e3,_,w3⟩:=DataW.trod_int Tp h3
 have b0:0≤i∧i≤4294967295:=by simpa [Lit.wf,IntKind.min,IntKind.max,IntKind.signed,IntKind.bits] using w0
 have b3:0≤q∧q≤4294967295:=by simpa [Lit.wf,IntKind.min,IntKind.max,IntKind.signed,IntKind.bits] using w3
 have s1:∃ A n c,(cs.drop 1).take 1= [.slice A n c]:=by
  rcases Go.Deep.open_slice underlying29 h1 with ⟨cK,_⟩|⟨a,len,cap,m,k,D,Pl,cK,_⟩
  ·exact⟨none,0,0,cK⟩
  ·exact⟨_,_,_,cK⟩
 have s2:∃ A n c,(cs.drop 2).take 1= [.slice A n c]:=by
  rcases Go.Deep.open_slice underlying30 h2 with ⟨cK,_⟩|⟨a,len,cap,m,k,D,Pl,cK,_⟩
  ·exact⟨none,0,0,cK⟩
  ·exact⟨_,_,_,cK⟩
 obtain⟨A1,n1,c1,e1⟩:=s1
 obtain⟨A2,n2,c2,e2⟩:=s2
 rw[e1] at h1
 rw[e2] at h2
 obtain⟨l,l1,l2,l3,l4,l5⟩:=jQ underlying29 DX DC sB (fun x=>BF w x) (fun x hx=>iR hx) Nz h1
 obtain⟨m,m1,m2,m3,m4,m5⟩:=jQ underlying30 AO DC kB (fun x=>xB w x) (fun x _=>iS x) Lu h2
 have g0:=pX e0
 have g1:=pX e1
 have g2:=pX e2
 have g3:=pX e3
 refine⟨i.toNat,q.toNat,l,m,A1,A2,n1,n2,c1,c2,?_,l1,m1,l2,m2,l3,m3,⟨l4,l5⟩,⟨m4,m5⟩,by omega,by omega⟩
 match cs,hl with
 | [a,b,d,e],_=>
  simp only[List.getElem?_cons_zero,List.getElem?_cons_succ,Option.some.injEq] at g0 g1 g2 g3
  rw[g0,g1,g2,g3,show ((i.toNat:Nat):Int)=i by omega,show ((q.toNat:Nat):Int)=q by omega]
end
end Go.Proofs.YtobjgebojhjhnaaGreatDoor
