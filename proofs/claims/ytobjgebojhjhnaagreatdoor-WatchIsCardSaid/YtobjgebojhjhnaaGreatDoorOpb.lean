import Derived.Test.YtobjgebojhjhnaaGreatDoorQr1
import Derived.WalkKit
import Derived.ProofKit
import Derived.OpenShut
import Derived.ChangeOld
import Derived.Deep.Slices
namespace Go.Proofs.YtobjgebojhjhnaaGreatDoor
set_option maxRecDepth 100000
set_option maxHeartbeats 16000000
open Go.RowKit Tryz Go.ChangeShapes Go.WideShapes Go.ChangeAt
theorem Ap {α β:Type} {f:α→Option β}:∀ {l:List α} {ys:List β},l.mapM f=some ys→ ∀ x ∈ l,∃ y,f x=some y
 | [],_,_,x,hx=>by cases hx
 |a :: l,ys,h,x,hx=>by
  rw[List.mapM_cons] at h
  cases ha:f a with
  |none=>rw[ha] at h;cases h
  |some y=>
   rw[ha] at h
   cases hl:l.mapM f with
   |none=>rw[hl] at h;cases h
   |some zs=>
    rcases List.mem_cons.1 hx with rfl|hx
    ·exact⟨y,ha⟩
    ·exact Ap hl x hx
theorem CO {α:Type} (g:α→List Value) (s:Nat):∀ (l:List α) (_:∀ x ∈ l,(g x).length=s) (i j:Nat) (x:α) (_:l[i]? =some x) (_:j<s),(l.flatMap g)[s*i+j]? =(g x)[j]?
 | [],_,i,j,x,hx,_=>by simp at hx
 |y :: l,h,0,j,x,hx,hj=>by
  obtain rfl:y=x:=by simpa using hx
  rw[List.flatMap_cons,Nat.mul_zero,Nat.zero_add,List.getElem?_append_left (by rw[h y (List.mem_cons_self ..)];exact hj)]
 |y :: l,h,i+1,j,x,hx,hj=>by
  have hy:=h y (List.mem_cons_self ..)
  rw[List.flatMap_cons,List.getElem?_append_right (by rw[hy,Nat.mul_add];omega),hy,show s*(i+1)+j - s=s*i+j by rw[Nat.mul_add];omega]
  exact CO g s l (fun x hx=>h x (List.mem_cons_of_mem _ hx)) i j x (by simpa using hx) hj
section
variable {H:Type} {enc:TypeId × Value→H} {w:World} {base:Nat} {spare:Nat→Bool} {held:Bool}
theorem CP:prog.cellsOf 5=1:=by kernel_rfl
theorem tX:prog.cellsOf 35=32:=by kernel_rfl
theorem kU {fuel:Nat} {cs:List Value} {x:DataW H × List MemPlace} (h:DataW.trod enc prog w base spare held fuel 35 cs=some x):∃ bs:List UInt8,bs.length=32∧cs=bs.map bv:=by
 cases fuel with
 |zero=>cases h
 |succ fuel=>
  unfold DataW.trod at h
  rw[SS] at h
  dsimp only at h
  rw[tX,CP] at h
  split at h
  ·rename_i hlen
   have hm:∃ ys,(List.range 32).mapM (fun i=>DataW.trod enc prog w base spare held fuel 5 ((cs.drop (i*1)).take 1))=some ys:=by
    cases hq:(List.range 32).mapM (fun i=>DataW.trod enc prog w base spare held fuel 5 ((cs.drop (i*1)).take 1)) with
    |none=>rw[hq] at h;cases h
    |some ys=>exact⟨ys,rfl⟩
   obtain⟨ys,hm⟩:=hm
   have each:∀ i,i<32→∃ n:Int,cs[i]? =some (.int .u8 n)∧(Lit.int .u8 n).wf=true:=by
    intro i hi
    obtain⟨y,hy⟩:=Ap hm i (List.mem_range.2 hi)
    obtain⟨n,hn,_,hw⟩:=DataW.trod_int Tl hy
    refine⟨n,?_,hw⟩
    have:(List.take 1 (cs.drop (i*1)))[0]? =some (.int .u8 n):=by rw[hn];rfl
    simpa using this
   refine⟨cs.map fun v=>match v with| .int _ n=>UInt8.ofNat n.toNat|_=>0,by rw[List.length_map,hlen],?_⟩
   rw[List.map_map]
   refine List.ext_getElem? fun i=>?_
   rw[List.getElem?_map]
   by_cases hi:i<32
   ·obtain⟨n,hn,hw⟩:=each i hi
    rw[hn]
    have hb:0≤n∧n≤255:=by simpa [Lit.wf,IntKind.min,IntKind.max,IntKind.signed,IntKind.bits] using hw
    have e:((UInt8.ofNat n.toNat).toNat:Int)=n:=by
     have:(UInt8.ofNat n.toNat).toNat=n.toNat % 256:=UInt8.toNat_ofNat'
     rw[this];omega
    show some (Value.int IntKind.u8 n)=some (Value.int IntKind.u8 ((UInt8.ofNat n.toNat).toNat:Int))
    rw[e]
   ·rw[List.getElem?_eq_none OM]
    rfl
  ·cases h
theorem jQ {α:Type} [Inhabited α] {t e:TypeId} {s:Nat} (ht:prog.underlying t=some (.slice e)) (hc:prog.cellsOf e=s) (hs:0<s) (g:α→List Value) (ok:α→Prop) (hg:∀ x,ok x→(g x).length=s)
  (hop:∀ (fuel:Nat) (cs:List Value) (y:DataW H × List MemPlace),DataW.trod enc prog w base spare held fuel e cs=some y→∃ x,cs=g x∧ok x)
  {fuel:Nat} {A:Option Addr} {n c:Nat} {x:DataW H × List MemPlace} (h:DataW.trod enc prog w base spare held fuel t [.slice A n c]=some x):
  ∃ l:List α,l.length=n∧n≤c∧c≤maxLen∧Rd w A (l.flatMap g)∧ ∀ y ∈ l,ok y:=by
 rcases Go.Deep.open_slice ht h with ⟨cK,_⟩|⟨a,len,cap,m,k,D,Pl,cK,_,hl,hm,hmm,_,hx⟩
 ·simp at cK
  obtain⟨rfl,rfl,rfl⟩:=cK
  exact⟨[],rfl,Nat.le_refl _,DC,Rd.nil _ _,fun _ hx=>(by cases hx)⟩
 ·simp at cK
  obtain⟨rfl,rfl,rfl⟩:=cK
  have hlm:n≤m:=by rw[hmm];split <;> omega
  rw[hc] at hx
  obtain⟨f,hf⟩:=Go.Deep.choose_lt (α:=α) (n:=n) (p:=fun i y=>ok y∧w.cells? base (a.add (i*s)) s=some (g y)) (fun i hi=>by
   obtain⟨cs',h1,h2⟩:=hx i OM
   obtain⟨y,hb1,hb2⟩:=hop _ _ _ h2
   exact⟨y,hb2,by rw[h1,hb1]⟩)
  have hlen:((List.range n).map f).length=n:=by simp
  have hok:∀ y ∈ (List.range n).map f,ok y:=fun y hy=>by
   obtain⟨i,hi,rfl⟩:=List.mem_map.1 hy
   exact(hf i (List.mem_range.1 hi)).1
  refine⟨(List.range n).map f,hlen,hl,hm,?_,hok⟩
  by_cases hn:n=0
  ·subst hn
   exact Rd.nil _ _
  ·have hcell:∀ i r,i<n→r<s→w.cell? ((a.add (i*s)).add r)=(g (f i))[r]? :=fun i r hi hr=>(World.cells?_some (hf i hi).2).2.2 r hr
   have hsp:a.spot=none:=by
    have h0:=hcell 0 0 OM hs
    have hl0:=hg _ (hf 0 OM).1
    rw[List.getElem?_eq_getElem OM] at h0
    cases hsp:a.spot with
    |none=>rfl
    |some s=>
     simp[World.cell?,Addr.add,hsp] at h0
     split at h0 <;> simp at h0
   have ha:a=⟨a.block,a.off,none⟩:=by cases a;simp_all
   refine .inr ⟨a.block,a.off,by rw[← ha],fun j u hu=>?_⟩
   have hflat:(((List.range n).map f).flatMap g).length=n*s:=by
    have:∀ l:List α,(∀ y ∈ l,(g y).length=s)→(l.flatMap g).length=l.length*s:=by
     intro l
     induction l with
     |nil=>simp
     |cons y l ih=>
      intro h
      rw[List.flatMap_cons,List.length_append,h y (List.mem_cons_self ..),ih fun z hz=>h z (List.mem_cons_of_mem _ hz),List.length_cons,Nat.add_mul,Nat.one_mul,Nat.add_comm]
    rw[this _ fun y hy=>hg y (hok y hy),hlen]
   have hj:j<n*s:=by
    have:=(List.getElem?_eq_some_iff.1 hu).1
    rw[hflat] at this
    exact this
   have hi:j / s<n:=Nat.div_lt_of_lt_mul (by rw[Nat.mul_comm];exact hj)
   have hr:j % s<s:=Nat.mod_lt _ hs
   have hdm:s*(j / s)+j % s=j:=Nat.div_add_mod j s
   have hgd:((List.range n).map f)[j / s]? =some (f (j / s)):=by
    rw[List.getElem?_map,List.getElem?_range hi]
    rfl
   have hq:=CO g s ((List.range n).map f) (fun y hy=>hg y (hok y hy)) (j / s) (j % s) _ hgd hr
   rw[hdm] at hq
   rw[hq] at hu
   have eB:=hcell (j / s) (j % s) hi hr
   rw[hu,ha,iM,iM] at eB
   rw[← eB]
   congr 2
   rw[Nat.add_assoc,Nat.mul_comm (j / s) s,hdm]
theorem CQ:∀ l:List UInt8,l.map bv=l.flatMap fun b=>[bv b]
 | []=>rfl
 |x :: l=>by rw[List.map_cons,List.flatMap_cons,CQ l];rfl
theorem pR {fuel:Nat} {A:Option Addr} {n c:Nat} {x:DataW H × List MemPlace} (h:DataW.trod enc prog w base spare held fuel 27 [.slice A n c]=some x):
  ∃ bs:List UInt8,bs.length=n∧n≤c∧c≤maxLen∧Rd w A (bs.map bv):=by
 obtain⟨l,h1,h2,h3,h4,_⟩:=jQ Tc CP DC (fun b:UInt8=>[bv b]) (fun _=>True) (fun _ _=>rfl) (fun fuel cs y hy=>by
  obtain⟨n,hn,_,hw⟩:=DataW.trod_int Tl hy
  have hb:0≤n∧n≤255:=by simpa [Lit.wf,IntKind.min,IntKind.max,IntKind.signed,IntKind.bits] using hw
  refine⟨UInt8.ofNat n.toNat,?_,trivial⟩
  have e:((UInt8.ofNat n.toNat).toNat:Int)=n:=by
   have:(UInt8.ofNat n.toNat).toNat=n.toNat % 256:=UInt8.toNat_ofNat'
   rw[this];omega
  rw[hn,bv,e]) h
 refine⟨l,h1,h2,h3,?_⟩
 rw[CQ]
 exact h4
end
end Go.Proofs.YtobjgebojhjhnaaGreatDoor
