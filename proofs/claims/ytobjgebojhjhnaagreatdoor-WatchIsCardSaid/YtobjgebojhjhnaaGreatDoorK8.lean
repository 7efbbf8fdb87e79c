import Derived.Test.YtobjgebojhjhnaaGreatDoorQr32
import Derived.Test.YtobjgebojhjhnaaGreatDoorQr27
import Derived.Deep.Strs
import Derived.Lib.SmallJoins
namespace Go.Proofs.YtobjgebojhjhnaaGreatDoor
open Go.RowKit Tryz Go.ChangeShapes Go.WideShapes Go.ChangeAt
instance:Inhabited Sn:=⟨⟨[],[],0⟩⟩
section
variable {H:Type} {enc:TypeId × Value→H} {w:World} {base:Nat} {spare:Nat→Bool} {held:Bool}
theorem AN:prog.cellsOf 111=65:=by kernel_rfl
theorem FC:prog.cellsOf 3=1:=by kernel_rfl
theorem rR {cs:List Value} {i:Nat} {v:Value} (h:(cs.drop i).take 1= [v]):cs[i]? =some v:=by
 have:((cs.drop i).take 1)[0]? =some v:=by rw[h];rfl
 simpa using this
theorem DW {fuel:Nat} {cs:List Value} {t e:TypeId} (ht:prog.underlying t=some (.slice e)) {x:DataW H × List MemPlace} (h:DataW.trod enc prog w base spare held fuel t cs=some x):∃ A n c,cs= [.slice A n c]:=by
 rcases Go.Deep.open_slice ht h with ⟨cK,_⟩|⟨a,len,cap,m,k,D,Pl,cK,_⟩
 ·exact⟨none,0,0,cK⟩
 ·exact⟨_,_,_,cK⟩
theorem Nw (fuel:Nat) (cs:List Value) (y:DataW H × List MemPlace) (h:DataW.trod enc prog w base spare held fuel 111 cs=some y):∃ s:Sn,cs=dY s∧s.ok:=by
 obtain⟨y0,y1,y2,n,_,hl,h0,h1,h2⟩:=Go.Deep.trod_struct3 Tf h
 rw[AN] at hl
 dsimp only at h0 h1 h2
 rw[tX] at h0 h1
 rw[FC] at h2
 obtain⟨p,hp,e0⟩:=kU h0
 obtain⟨q,hq,e1⟩:=kU h1
 obtain⟨i,e2,_,_⟩:=DataW.trod_int Tv h2
 refine⟨⟨p,q,i⟩,?_,hp,hq⟩
 have e0':cs.take 32=p.map bv:=by simpa using e0
 have e1':(cs.drop 32).take 32=q.map bv:=by simpa using e1
 have e2':(cs.drop 64).take 1= [.int .i64 i]:=by simpa using e2
 have hd:(cs.drop 64).length=1:=by rw[List.length_drop,hl]
 rw[List.take_of_length_le (by rw[hd];exact Nat.le_refl _)] at e2'
 unfold dY
 rw[← List.take_append_drop 32 cs,e0']
 congr 1
 rw[← List.take_append_drop 32 (cs.drop 32),e1',List.drop_drop,e2']
theorem Lt {fuel:Nat} {A:Option Addr} {n c:Nat} {x:DataW H × List MemPlace} (h:DataW.trod enc prog w base spare held fuel 24 [.slice A n c]=some x):∃ l:List Sn,l.length=n∧n≤c∧c≤maxLen∧dI w A l:=by
 obtain⟨l,h1,h2,h3,h4,h5⟩:=jQ Tt AN DC dY Sn.ok (fun x hx=>dD hx) Nw h
 exact⟨l,h1,h2,h3,h4,h5⟩
theorem Nx {fuel:Nat} {cs:List Value} {y:DataW H × List MemPlace} (h:DataW.trod enc prog w base spare held fuel 26 cs=some y):
  ∃ (S:List (List UInt8 × Sl)) (T:List (List UInt8)) (N:List Sn) (As At An:Option Addr) (ns cz nt ct nn cn:Nat),cs=bS As At An ns cz nt ct nn cn∧S.length=ns∧ns≤maxLen∧T.length=nt∧N.length=nn∧dU w As S∧fD w At T∧dI w An N:=by
 obtain⟨y0,y1,y2,n,_,hl,h0,h1,h2⟩:=Go.Deep.trod_struct3 SY h
 rw[show prog.cellsOf 26=3 by kernel_rfl] at hl
 dsimp only at h0 h1 h2
 rw[show prog.cellsOf 22=1 by kernel_rfl] at h0
 rw[show prog.cellsOf 23=1 by kernel_rfl] at h1
 rw[show prog.cellsOf 24=1 by kernel_rfl] at h2
 obtain⟨A0,n0,c0,e0⟩:=DW To h0
 obtain⟨A1,n1,c1,e1⟩:=DW Tj h1
 obtain⟨A2,n2,c2,e2⟩:=DW Tt h2
 rw[e0] at h0
 rw[e1] at h1
 rw[e2] at h2
 obtain⟨S,s1,s2,s3,s4⟩:=Jy h0
 obtain⟨T,t1,_,_,t4⟩:=Ga h1
 obtain⟨N,r1,_,_,r4⟩:=Lt h2
 have g0:=rR e0
 have g1:=rR e1
 have g2:=rR e2
 refine⟨S,T,N,A0,A1,A2,n0,c0,n1,c1,n2,c2,?_,s1,by omega,t1,r1,s4,t4,r4⟩
 match cs,hl with
 | [a,b,d],_=>
  simp only[List.getElem?_cons_zero,List.getElem?_cons_succ,Option.some.injEq] at g0 g1 g2
  unfold bS
  rw[g0,g1,g2]
theorem Ny {fuel:Nat} {cs:List Value} {y:DataW H × List MemPlace} (h:DataW.trod enc prog w base spare held fuel 39 cs=some y):
  ∃ (x:Hd) (tot:Nat) (hs:List (List UInt8)) (fl:List UInt8) (Ah Af:Option Addr) (nh ch nf cf:Nat),cs=kL x tot Ah nh ch Af nf cf∧x.ok∧tot<4294967296∧hs.length=nh∧fl.length=nf∧fD w Ah hs∧Rd w Af (fl.map bv):=by
 obtain⟨y0,y1,y2,y3,n,_,hl,h0,h1,h2,h3⟩:=Go.Joins.trod_struct4 underlying39 h
 rw[show prog.cellsOf 39=71 by kernel_rfl] at hl
 dsimp only at h0 h1 h2 h3
 rw[show prog.cellsOf 37=68 by kernel_rfl] at h0
 rw[show prog.cellsOf 28=1 by kernel_rfl] at h1
 rw[show prog.cellsOf 23=1 by kernel_rfl] at h2
 rw[show prog.cellsOf 27=1 by kernel_rfl] at h3
 obtain⟨x,e0,xok⟩:=Gz _ _ _ h0
 obtain⟨i,e1,_,w1⟩:=DataW.trod_int Tp h1
 have b1:0≤i∧i≤4294967295:=by simpa [Lit.wf,IntKind.min,IntKind.max,IntKind.signed,IntKind.bits] using w1
 obtain⟨A1,n1,c1,e2⟩:=DW Tj h2
 obtain⟨A2,n2,c2,e3⟩:=DW Tc h3
 rw[e2] at h2
 rw[e3] at h3
 obtain⟨T,t1,_,_,t4⟩:=Ga h2
 obtain⟨f,f1,_,_,f4⟩:=pR h3
 have g1:=rR e1
 have g2:=rR e2
 have g3:=rR e3
 refine⟨x,i.toNat,T,f,A1,A2,n1,c1,n2,c2,?_,xok,by omega,t1,f1,t4,f4⟩
 have e0':cs.take 68=fC x:=by simpa using e0
 rw[← List.take_append_drop 68 cs,e0',kL]
 congr 1
 have hd:(cs.drop 68).length=3:=by rw[List.length_drop,hl]
 have k1:(cs.drop 68)[0]? =some (.int .u32 i):=by rw[List.getElem?_drop];exact g1
 have k2:(cs.drop 68)[1]? =some (.slice A1 n1 c1):=by rw[List.getElem?_drop];exact g2
 have k3:(cs.drop 68)[2]? =some (.slice A2 n2 c2):=by rw[List.getElem?_drop];exact g3
 match cK:cs.drop 68,hd with
 | [a,b,d],_=>
  rw[cK] at k1 k2 k3
  simp only[List.getElem?_cons_zero,List.getElem?_cons_succ,Option.some.injEq] at k1 k2 k3
  rw[k1,k2,k3,show ((i.toNat:Nat):Int)=i by omega]
end
end Go.Proofs.YtobjgebojhjhnaaGreatDoor
