import Derived.Test.YtobjgebojhjhnaaGreatDoorOpb
import Derived.Test.YtobjgebojhjhnaaGreatDoorQr6
namespace Go.Proofs.YtobjgebojhjhnaaGreatDoor
open Go.RowKit Tryz Go.ChangeShapes Go.WideShapes Go.ChangeAt
def yU (l:List (List UInt8 × Sl)):List Value:=l.map fun e=>BE e.1.length e.2
def dU (w:World) (A:Option Addr) (l:List (List UInt8 × Sl)):Prop:=Rd w A (yU l)∧ ∀ e ∈ l,Rd w e.2.1 (e.1.map bv)∧e.1.length≤e.2.2
theorem dU.b {w w':World} {A:Option Addr} {l:List (List UInt8 × Sl)} (h:dU w A l) (b:Below w.heap.size w w'):dU w' A l:=⟨h.1.b b,fun e he=>⟨(h.2 e he).1.b b,(h.2 e he).2⟩⟩
theorem dU.nil (w:World) (A:Option Addr):dU w A []:=⟨Rd.nil _ _,fun e he=>by cases he⟩
theorem dU.adr {w:World} {A:Option Addr} {l:List (List UInt8 × Sl)} (h:dU w A l) (hl:0<l.length):∃ b off,A=some ⟨b,off,none⟩:=by
 rcases h.1 with h|⟨b,off,h,_⟩
 ·rw[yU,List.map_eq_nil_iff] at h;rw[h] at hl;simp at hl
 ·exact⟨b,off,h⟩
theorem dU.nth {w:World} {b off:Nat} {l:List (List UInt8 × Sl)} (h:dU w (some ⟨b,off,none⟩) l) (k:Nat) (e:List UInt8 × Sl) (hk:l[k]? =some e):w.cell? ⟨b,off+k,none⟩=some (BE e.1.length e.2)∧Rd w e.2.1 (e.1.map bv)∧e.1.length≤e.2.2:=by
 refine⟨?_,h.2 e (List.mem_of_getElem? hk)⟩
 rcases h.1 with h0|⟨b',off',hA,hc⟩
 ·rw[yU,List.map_eq_nil_iff] at h0;rw[h0] at hk;simp at hk
 ·injection hA with hA
  injection hA with h1 h2 _
  subst h1;subst h2
  exact hc k _ (by rw[yU,List.getElem?_map,hk];rfl)
def Jx (l:List (List UInt8)):List Value:=l.flatMap fun h=>h.map bv
def fD (w:World) (A:Option Addr) (l:List (List UInt8)):Prop:=Rd w A (Jx l)∧ ∀ e ∈ l,e.length=32
theorem fD.b {w w':World} {A:Option Addr} {l:List (List UInt8)} (h:fD w A l) (b:Below w.heap.size w w'):fD w' A l:=⟨h.1.b b,h.2⟩
theorem fD.nil (w:World) (A:Option Addr):fD w A []:=⟨Rd.nil _ _,fun e he=>by cases he⟩
theorem xE:∀ (l:List (List UInt8)) (_:∀ e ∈ l,e.length=32),(Jx l).length=l.length*32:=fun l h=>
 eW (fun h:List UInt8=>h.map bv) 32 l fun e he=>by rw[List.length_map];exact h e he
theorem fD.adr {w:World} {A:Option Addr} {l:List (List UInt8)} (h:fD w A l) (hl:0<l.length):∃ b off,A=some ⟨b,off,none⟩:=by
 rcases h.1 with h1|⟨b,off,h1,_⟩
 ·have:=xE l h.2
  rw[h1,List.length_nil] at this
  omega
 ·exact⟨b,off,h1⟩
theorem fD.nth {w:World} {b off:Nat} {l:List (List UInt8)} (h:fD w (some ⟨b,off,none⟩) l) (k:Nat) (e:List UInt8) (hk:l[k]? =some e):w.rangeAt b (off+k*32) (e.map bv):=
 Rd.piece (fun h:List UInt8=>h.map bv) 32 l (fun e he=>by rw[List.length_map];exact h.2 e he) h.1 k e hk
section
variable {H:Type} {enc:TypeId × Value→H} {w:World} {base:Nat} {spare:Nat→Bool} {held:Bool}
instance:Inhabited (List UInt8 × Sl):=⟨([],(none,0))⟩
theorem Hb:prog.cellsOf 27=1:=by kernel_rfl
theorem Jy {fuel:Nat} {A:Option Addr} {n c:Nat} {x:DataW H × List MemPlace} (h:DataW.trod enc prog w base spare held fuel 22 [.slice A n c]=some x):
  ∃ l:List (List UInt8 × Sl),l.length=n∧n≤c∧c≤maxLen∧dU w A l:=by
 obtain⟨l,h1,h2,h3,h4,h5⟩:=jQ To Hb DC (fun e:List UInt8 × Sl=>[BE e.1.length e.2]) (fun e=>Rd w e.2.1 (e.1.map bv)∧e.1.length≤e.2.2) (fun _ _=>rfl) (fun fuel cs y hy=>by
  have cK:∃ A n c,cs= [.slice A n c]:=by
   rcases Go.Deep.open_slice Tc hy with ⟨cK,_⟩|⟨a,len,cap,m,k,D,Pl,cK,_⟩
   ·exact⟨none,0,0,cK⟩
   ·exact⟨_,_,_,cK⟩
  obtain⟨A,n,c,rfl⟩:=cK
  obtain⟨bs,e1,e2,_,e4⟩:=pR hy
  exact⟨(bs,(A,c)),by rw[BE,e1],e4,by show bs.length≤c;omega⟩) h
 refine⟨l,h1,h2,h3,?_,h5⟩
 have:yU l=l.flatMap fun e=>[BE e.1.length e.2]:=by
  rw[yU];clear h1 h4 h5;induction l with
  |nil=>rfl
  |cons a l ih=>rw[List.map_cons,List.flatMap_cons,ih];rfl
 rw[this]
 exact h4
theorem Ga {fuel:Nat} {A:Option Addr} {n c:Nat} {x:DataW H × List MemPlace} (h:DataW.trod enc prog w base spare held fuel 23 [.slice A n c]=some x):
  ∃ l:List (List UInt8),l.length=n∧n≤c∧c≤maxLen∧fD w A l:=by
 obtain⟨l,h1,h2,h3,h4,h5⟩:=jQ Tj tX DC (fun e:List UInt8=>e.map bv) (fun e=>e.length=32) (fun e he=>by rw[List.length_map,he]) (fun fuel cs y hy=>by
  obtain⟨bs,e1,e2⟩:=kU hy
  exact⟨bs,e2,e1⟩) h
 exact⟨l,h1,h2,h3,h4,h5⟩
end
def CS (outs:List fA) (S:List (List UInt8)):Bool:=outs.any fun o=>S.any fun s=>o.scr==s
def He (ins:List lI) (H:List (List UInt8)):Bool:=ins.any fun i=>H.any fun h=>i.prev==h
def Eb (t:FZ) (S H:List (List UInt8)):Bool:=CS t.outs S || He t.ins H
theorem CU {outs:List fA} {S:List (List UInt8)} {o:fA} {s:List UInt8} (ho:o ∈ outs) (hs:s ∈ S) (h:o.scr=s):CS outs S=true:=by
 simp only[CS,List.any_eq_true,beq_iff_eq]
 exact⟨o,ho,s,hs,h⟩
theorem CV {ins:List lI} {H:List (List UInt8)} {i:lI} {x:List UInt8} (hi:i ∈ ins) (hx:x ∈ H) (h:i.prev=x):He ins H=true:=by
 simp only[He,List.any_eq_true,beq_iff_eq]
 exact⟨i,hi,x,hx,h⟩
theorem Gb {outs:List fA} {S:List (List UInt8)} (h:∀ o ∈ outs,∀ s ∈ S,o.scr≠s):CS outs S=false:=by
 cases hb:CS outs S
 ·rfl
 ·simp only[CS,List.any_eq_true,beq_iff_eq] at hb
  obtain⟨o,ho,s,hs,he⟩:=hb
  exact absurd he (h o ho s hs)
theorem Gc {ins:List lI} {H:List (List UInt8)} (h:∀ i ∈ ins,∀ x ∈ H,i.prev≠x):He ins H=false:=by
 cases hb:He ins H
 ·rfl
 ·simp only[He,List.any_eq_true,beq_iff_eq] at hb
  obtain⟨o,ho,s,hs,he⟩:=hb
  exact absurd he (h o ho s hs)
end Go.Proofs.YtobjgebojhjhnaaGreatDoor
