import Derived.Test.YtobjgebojhjhnaaGreatDoorOpb
import Derived.Test.YtobjgebojhjhnaaGreatDoorQr18
import Derived.WalkKit
import Derived.ProofKit
import Derived.OpenShut
import Derived.ChangeOld
import Derived.Deep.Slices
namespace Go.Proofs.YtobjgebojhjhnaaGreatDoor
open Go.RowKit Tryz Go.ChangeShapes Go.WideShapes Go.ChangeAt
section
variable {H:Type} {enc:TypeId × Value→H} {w:World} {base:Nat} {spare:Nat→Bool} {held:Bool}
theorem DV:prog.cellsOf 37=68:=by kernel_rfl
theorem FB:prog.cellsOf 28=1:=by kernel_rfl
theorem Cn {cs:List Value} {i:Nat} {v:Value} (h:(cs.drop i).take 1= [v]):cs[i]? =some v:=by
 have:((cs.drop i).take 1)[0]? =some v:=by rw[h];rfl
 simpa using this
theorem wG {fuel:Nat} {cs:List Value} {x:DataW H × List MemPlace} (h:DataW.trod enc prog w base spare held fuel 28 cs=some x):∃ n:Nat,cs= [.int .u32 (n:Int)]∧n<4294967296:=by
 obtain⟨i,e1,_,w1⟩:=DataW.trod_int Tp h
 have b1:0≤i∧i≤4294967295:=by simpa [Lit.wf,IntKind.min,IntKind.max,IntKind.signed,IntKind.bits] using w1
 exact⟨i.toNat,by rw[e1,show ((i.toNat:Nat):Int)=i by omega],by omega⟩
theorem Gz (fuel:Nat) (cs:List Value) (y:DataW H × List MemPlace) (h:DataW.trod enc prog w base spare held fuel 37 cs=some y):∃ x:Hd,cs=fC x∧x.ok:=by
 obtain⟨xs,n,_,rfl,hl,hlen,hf⟩:=DataW.trod_struct Tb h
 rw[DV] at hl
 match xs,hlen with
 | [y0,y1,y2,y3,y4,y5],_=>
  have h0:DataW.trod enc prog w base spare held n 28 ((cs.drop 0).take (prog.cellsOf 28))=some y0:=by simpa using hf 0 _ rfl
  have h1:DataW.trod enc prog w base spare held n 35 ((cs.drop 1).take (prog.cellsOf 35))=some y1:=by simpa using hf 1 _ rfl
  have h2:DataW.trod enc prog w base spare held n 35 ((cs.drop 33).take (prog.cellsOf 35))=some y2:=by simpa using hf 2 _ rfl
  have h3:DataW.trod enc prog w base spare held n 28 ((cs.drop 65).take (prog.cellsOf 28))=some y3:=by simpa using hf 3 _ rfl
  have h4:DataW.trod enc prog w base spare held n 28 ((cs.drop 66).take (prog.cellsOf 28))=some y4:=by simpa using hf 4 _ rfl
  have h5:DataW.trod enc prog w base spare held n 28 ((cs.drop 67).take (prog.cellsOf 28))=some y5:=by simpa using hf 5 _ rfl
  rw[FB] at h0 h3 h4 h5
  rw[tX] at h1 h2
  obtain⟨a0,e0,b0⟩:=wG h0
  obtain⟨p,hp,e1⟩:=kU h1
  obtain⟨r,hr,e2⟩:=kU h2
  obtain⟨a3,e3,b3⟩:=wG h3
  obtain⟨a4,e4,b4⟩:=wG h4
  obtain⟨a5,e5,b5⟩:=wG h5
  refine⟨⟨a0,p,r,a3,a4,a5⟩,?_,b0,hp,hr,b3,b4,b5⟩
  rw[List.drop_zero] at e0
  have d1:=List.take_append_drop 32 (cs.drop 1)
  have d2:=List.take_append_drop 32 (cs.drop 33)
  rw[e1,List.drop_drop] at d1
  rw[e2,List.drop_drop] at d2
  have g0:=List.take_append_drop 1 cs
  rw[e0] at g0
  have k3:=Cn e3
  have k4:=Cn e4
  have k5:=Cn e5
  have hd:(cs.drop 65).length=3:=by rw[List.length_drop,hl]
  have l3:(cs.drop 65)[0]? =some (.int .u32 (a3:Int)):=by rw[List.getElem?_drop];exact k3
  have l4:(cs.drop 65)[1]? =some (.int .u32 (a4:Int)):=by rw[List.getElem?_drop];exact k4
  have l5:(cs.drop 65)[2]? =some (.int .u32 (a5:Int)):=by rw[List.getElem?_drop];exact k5
  have d3:cs.drop 65= [.int .u32 (a3:Int),.int .u32 (a4:Int),.int .u32 (a5:Int)]:=by
   match cK:cs.drop 65,hd with
   | [a,b,d],_=>
    rw[cK] at l3 l4 l5
    simp only[List.getElem?_cons_zero,List.getElem?_cons_succ,Option.some.injEq] at l3 l4 l5
    rw[l3,l4,l5]
  rw[← g0,← d1,← d2,d3]
  rfl
theorem Ls {fuel:Nat} {A:Option Addr} {n c:Nat} {x:DataW H × List MemPlace} (h:DataW.trod enc prog w base spare held fuel 33 [.slice A n c]=some x):∃ l:List Hd,l.length=n∧n≤c∧c≤maxLen∧oS w A l:=by
 obtain⟨l,h1,h2,h3,h4,h5⟩:=jQ underlying33 DV DC fC Hd.ok (fun x hx=>cJ hx) Gz h
 exact⟨l,h1,h2,h3,h4,h5⟩
end
end Go.Proofs.YtobjgebojhjhnaaGreatDoor
namespace Go.Proofs.YtobjgebojhjhnaaGreatDoor
open Go.RowKit Go.ChangeShapes Go.WideShapes Go.ChangeAt
section
variable {H:Type} {enc:TypeId × Value→H} {w:World} {base:Nat} {spare:Nat→Bool} {held:Bool}
end
end Go.Proofs.YtobjgebojhjhnaaGreatDoor
namespace Go.Proofs.YtobjgebojhjhnaaGreatDoor
open Go.RowKit Go.ChangeShapes Go.WideShapes Go.ChangeAt
theorem zN {P:Program} {w:World} {r:Reach} {base:Nat} {t:TypeId} {v:Value} {n:Nat} {e:TypeId} (ht:P.underlying t=some (.array n e)) (h:Value.okWide P w r base t v):∃ cs,v= .agg cs:=by
 simp only[Value.okWide,ht] at h
 obtain⟨cs,h1,_⟩:=h
 exact⟨cs,h1⟩
end Go.Proofs.YtobjgebojhjhnaaGreatDoor
