import Derived.RangeFuncNested
import Derived.RangeFuncBound
import Derived.RangeFuncCalls
import Derived.RangeFuncLeaves
import Derived.Shelf.Abstract
import Derived.Shelf.RegionOpen
import Derived.WalkKit
import Derived.OwnWalkIn
import Derived.TacticsInMore
import Derived.LoopNIn
import Derived.LoopIn
import Derived.Test.YtobjgebojhjhnaaGreatDoorQr18
import Derived.Laws.BitsLemmas
import Derived.Laws.Shifts
import Derived.Laws.ShiftsVarLaws
import Derived.Outline
import Derived.Test.YtobjgebojhjhnaaGreatDoorQr5
namespace Go.Proofs.YtobjgebojhjhnaaGreatDoor
open Go.RowKit
def SB (base:Nat) (W:World) (A:Option Addr) (x:List (List UInt8)):Prop:=Rd W A (eB x)∧ ∀ a,A=some a→base≤a.block
theorem Rd.grown {W W':World} {A:Option Addr} {xs:List Value} {row:Option Nat} (h:Rd W A xs) (hg:W.grownBy W' row) (hrow:∀ r,row=some r→∃ o:Obj,W.heap[r]? =some o∧o.isCells=false):Rd W' A xs:=
 h.keep fun _ _ _ hv=>cell_kept hv hg hrow
def Ss (n:Nat) (P:Program) (g:Nat) (lb:Array Value) (lvs:List (List (List UInt8))) (w:World):Prop:=
 ∀ (l:Nat) (J:Nat→World→Prop) (W:World),Below w.heap.size w W→(∀ j W,J j W→fW W)→
  (∀ j x W0 W1 A c,lvs[j]? =some x→J j W0→Below W0.heap.size W0 W1→SB W0.heap.size W1 A x→x.length≤c→YieldAt Fence.wide (n - 1) P l #[.slice A x.length c] W1 fun e W'=>
   e= .returned (.bool true)∧J (j+1) W'∧Rd W' A (eB x))→
  J 0 W→
  CallsIn Fence.wide n P g (#[.func (.yield l) #[] #[]]++lb) W fun e W'=>(∃ v,e= .returned v)∧J lvs.length W'
def RO (B:Nat) (A:Option Addr) (x:List (List UInt8)) (R:World→Prop) (W:World):Exit→Act→World→Prop
 | .normal,_,W'=>KeepsFrom B W W'∧Rd W' A (eB x)∧R W'
 |_,_,_=>False
open Go.RowKit Go.Shelf
attribute [local go_sem] Oper.semAt_some
def QC:Nat→List (List UInt8)→List (List (List UInt8))
 |0,l=>[l]
 |f+1,l=>if l.length≤1 then [l] else l :: QC f (Sr l)
def SC (l:List (List UInt8)):List (List (List UInt8)):=if l.length=0∨4096<l.length then [] else QC 12 l
end Go.Proofs.YtobjgebojhjhnaaGreatDoor
namespace Go.Proofs.YtobjgebojhjhnaaGreatDoor
open Go.RowKit
def SL (K:Act→World→Prop):Exit→Act→World→Prop
 | .normal,a,w=>K a w
 |_,_,_=>False
def Ra (ops:List Oper):Bool:=ops.all fun o=>match o.op with| .defer _=>false|_=>true
section
variable {P:Program} {n:Nat} {Q:Exit→Act→World→Prop}
end
end Go.Proofs.YtobjgebojhjhnaaGreatDoor
namespace Go.Proofs.YtobjgebojhjhnaaGreatDoor
open Go.RowKit Tryz Go.Shelf
attribute [local go_sem] Oper.semAt_some
theorem RP (x y:List UInt8) (hx:x.length=32) (hy:y.length=32) (w:World):(binOp .eql 35 (.agg (cK x)) (.agg (cK y))).run prog w= .ok (.bool (x==y)) w:=
 run_eql_bytes w 35 5 32 SS Tl mQ x y hx hy
def Gp:List (List UInt8)→Bool
 |x :: y :: r=>(x==y) || Gp r
 |_=>false
def RQ (ls:List (List (List UInt8))):Bool:=ls.any Gp
def Rb (ls:List (List (List UInt8))):List UInt8:=(ls.getLast?.map fun x=>x.getD 0 []).getD (List.replicate 32 0)
theorem Av.grown {W W':World} {g:Nat} {t:TypeId} {l:List Value} {row:Option Nat} (h:Av W g t l) (hg:W.grownBy W' row) (hrow:∀ r,row=some r→∃ o:Obj,W.heap[r]? =some o∧o.isCells=false):Av W' g t l:=
 h.same (grownBy_keeps_cells hg hrow h rfl)
end Go.Proofs.YtobjgebojhjhnaaGreatDoor
namespace Go.Proofs.YtobjgebojhjhnaaGreatDoor
open Go.RowKit
theorem EV (n j:Nat) (hn:n≤4096) (hj:j≤12):iF n j=(((n+2 ^ j - 1) / 2 ^ j:Nat):Int):=by
 have hp:0<2 ^ j:=Nat.pow_pos OM
 rw[iF,if_neg OM,show min (max (n:Int) 0) 4096=(n:Int) by omega,show (min (j:Int) 12).toNat=j by omega]
 rw[show (n:Int)+2 ^ j - 1=((n+2 ^ j - 1:Nat):Int) by rw[Int.ofNat_sub OM];simp]
 simp
def mN (n h:Nat):Nat:=(n+2 ^ h - 1) / 2 ^ h
theorem Dm (n:Nat):mN n 0=n:=by simp[mN]
theorem xQ (n h:Nat):mN n (h+1)=(mN n h+1) / 2:=by
 have hp:0<2 ^ h:=Nat.pow_pos OM
 unfold mN
 rw[Nat.pow_succ,← Nat.div_div_eq_div_mul]
 congr 1
 rw[← Nat.add_div_right _ hp]
 congr 1
 omega
def Dn (n:Nat):Nat→Nat→Nat
 |0,h=>h
 |f+1,h=>if 1<mN n h then Dn n f (h+1) else h
def xT (n:Nat):Nat:=Dn n 12 0
theorem AD (n:Nat):∀ (f h:Nat),n≤2 ^ (f+h)→(∀ j,j<h→1<mN n j)→(Dn n f h≤f+h)∧(∀ j,j<Dn n f h→1<mN n j)∧mN n (Dn n f h)≤1
 |0,h,hn,hlo=>by
  refine⟨by simp[Dn],hlo,?_⟩
  rw[Dn,mN]
  have hp:0<2 ^ h:=Nat.pow_pos OM
  rw[Nat.zero_add] at hn
  rw[Nat.div_le_iff_le_mul hp]
  omega
 |f+1,h,hn,hlo=>by
  rw[Dn]
  split
  ·rename_i h1
   have:=AD n f (h+1) (by rw[show f+(h+1)=f+1+h by omega];exact hn) (fun j hj=>by
    by_cases e:j=h
    ·rw[e];exact h1
    ·exact hlo j OM)
   exact⟨by omega,this.2⟩
  ·rename_i h1
   exact⟨by omega,hlo,by omega⟩
theorem xU (n:Nat) (hn:n≤4096):xT n≤12∧(∀ j,j<xT n→1<mN n j)∧mN n (xT n)≤1:=
 AD n 12 0 (by simpa using hn) (fun j hj=>absurd hj (Nat.not_lt_zero _))
def fX (fl:List UInt8) (d:Nat):Option Bool:=(fl[d / 8]?).map fun b=>b.toNat / 2 ^ (d % 8) % 2==1
theorem dM {fl:List UInt8} {d:Nat} {b:Bool} (h:fX fl d=some b):d<8*fl.length:=by
 unfold fX at h
 cases e:fl[d / 8]? with
 |none=>rw[e] at h;cases h
 |some x=>
  obtain⟨p,_⟩:=List.getElem?_eq_some_iff.1 e
  omega
theorem nF {fl:List UInt8} {d:Nat} (h:d<8*fl.length):fX fl d=some ((fl.getD (d / 8) 0).toNat / 2 ^ (d % 8) % 2==1):=by
 unfold fX
 rw[List.getD_eq_getElem?_getD,List.getElem?_eq_getElem (show d / 8<fl.length by omega)]
 rfl
structure kG where
 x:List UInt8
 l:List (Nat × List UInt8)
 d:Nat
 k:Nat
def nW (n:Nat) (fl:List UInt8) (hs:List (List UInt8)):Nat→Nat→Nat→Nat→Option kG
 |0,i,d,k=>(fX fl d).bind fun b=>(hs[k]?).map fun x=>⟨x,if b then [(i,x)] else [],d+1,k+1⟩
 |h+1,i,d,k=>(fX fl d).bind fun b=>
  if b then (nW n fl hs h (2*i) (d+1) k).bind fun r=>
   if 2*i+1<mN n h then (nW n fl hs h (2*i+1) r.d r.k).bind fun s=>if r.x=s.x then none else some ⟨gZ r.x s.x,r.l++s.l,s.d,s.k⟩
   else some ⟨gZ r.x r.x,r.l,r.d,r.k⟩
  else (hs[k]?).map fun x=>⟨x,[],d+1,k+1⟩
def qV (fl:List UInt8) (d:Nat):Bool:=(List.range ((8 - d % 8) % 8)).all fun j=>fX fl (d+j)!=some true
def vP (tot:Nat) (hs:List (List UInt8)) (fl:List UInt8):Bool:=decide (tot≠0∧tot≤4096∧hs.length≤tot∧hs.length≤8*fl.length)
def sF (hs:List (List UInt8)) (fl:List UInt8) (d k:Nat):Bool:=decide (k=hs.length∧(d+7) / 8=fl.length) && qV fl d
def kJ (tot:Nat) (hs:List (List UInt8)) (fl:List UInt8):Option kG:=
 if vP tot hs fl then (nW tot fl hs (xT tot) 0 0 0).filter fun r=>sF hs fl r.d r.k else none
theorem kV (n:Nat) (fl:List UInt8) (hs:List (List UInt8)) (h32:dV hs):∀ (h i d k:Nat) (r:kG),nW n fl hs h i d k=some r→d<r.d∧r.d≤8*fl.length∧k<r.k∧r.k≤hs.length∧r.l.length+k≤r.k∧r.x.length=32∧ ∀ p ∈ r.l,p.2.length=32:=by
 have leaf:∀ (i d k:Nat) (b c:Bool) (r:kG),fX fl d=some b→(hs[k]?).map (fun x=>kG.mk x (if c then [(i,x)] else []) (d+1) (k+1))=some r→d<r.d∧r.d≤8*fl.length∧k<r.k∧r.k≤hs.length∧r.l.length+k≤r.k∧r.x.length=32∧ ∀ p ∈ r.l,p.2.length=32:=by
  intro i d k b c r hd hr
  have h1:=dM hd
  cases e:hs[k]? with
  |none=>rw[e] at hr;cases hr
  |some x=>
   rw[e] at hr
   obtain⟨p,q⟩:=List.getElem?_eq_some_iff.1 e
   have hx:x.length=32:=h32 x (by rw[← q];exact List.getElem_mem p)
   obtain rfl:=Option.some.inj hr
   refine⟨by dsimp only;omega,h1,by dsimp only;omega,p,?_,hx,?_⟩
   ·dsimp only;split <;> simp;omega
   ·dsimp only
    split
    ·intro p hp;rw[List.mem_singleton.1 hp];exact hx
    ·intro p hp;cases hp
 intro h
 induction h with
 |zero=>
  intro i d k r hr
  rw[nW] at hr
  cases e:fX fl d with
  |none=>rw[e] at hr;cases hr
  |some b=>rw[e] at hr;exact leaf i d k b b r e hr
 |succ h ih=>
  intro i d k r hr
  rw[nW] at hr
  cases e:fX fl d with
  |none=>rw[e] at hr;cases hr
  |some b=>
   rw[e,Option.bind_some] at hr
   cases b with
   |false=>exact leaf i d k false false r e hr
   |true=>
    rw[if_pos rfl] at hr
    cases e1:nW n fl hs h (2*i) (d+1) k with
    |none=>rw[e1] at hr;cases hr
    |some a=>
     rw[e1,Option.bind_some] at hr
     obtain⟨a1,a2,a3,a4,a5,a6,a7⟩:=ih _ _ _ _ e1
     split at hr
     ·cases e2:nW n fl hs h (2*i+1) a.d a.k with
      |none=>rw[e2] at hr;cases hr
      |some s=>
       rw[e2,Option.bind_some] at hr
       obtain⟨b1,b2,b3,b4,b5,b6,b7⟩:=ih _ _ _ _ e2
       split at hr
       ·cases hr
       ·have hy:=iZ a.x s.x
        generalize gZ a.x s.x=y at hy hr
        obtain rfl:=Option.some.inj hr
        refine⟨by dsimp only;omega,b2,by dsimp only;omega,b4,by simp only[List.length_append];omega,hy,?_⟩
        intro p hp
        rcases List.mem_append.1 hp with hp|hp
        ·exact a7 p hp
        ·exact b7 p hp
     ·have hy:=iZ a.x a.x
      generalize gZ a.x a.x=y at hy hr
      obtain rfl:=Option.some.inj hr
      exact⟨by dsimp only;omega,a2,a3,a4,a5,hy,a7⟩
structure xX where
 h:Nat
 i:Nat
 a:Option (List UInt8)
def uC (n:Nat) (fl:List UInt8) (hs:List (List UInt8)):List xX→Option kG→Option kG
 | [],r=>r
 |_ :: _,none=>none
 |⟨_,_,some a⟩ :: st,some r=>if a=r.x then none else uC n fl hs st (some ⟨gZ a r.x,r.l,r.d,r.k⟩)
 |⟨h,i,none⟩ :: st,some r=>
  if 2*i+1<mN n (h - 1) then
   match nW n fl hs (h - 1) (2*i+1) r.d r.k with
   |none=>none
   |some s=>if r.x=s.x then none else uC n fl hs st (some ⟨gZ r.x s.x,r.l++s.l,s.d,s.k⟩)
  else uC n fl hs st (some ⟨gZ r.x r.x,r.l,r.d,r.k⟩)
theorem jW (n:Nat) (fl:List UInt8) (hs:List (List UInt8)):∀ st,uC n fl hs st none=none
 | []=>rfl
 |_ :: _=>by rw[uC]
def kG.pre (l:List (Nat × List UInt8)) (r:kG):kG:=⟨r.x,l++r.l,r.d,r.k⟩
def mD (n:Nat) (fl:List UInt8) (hs:List (List UInt8)) (st:List xX) (h i:Nat) (l:List (Nat × List UInt8)) (d k:Nat):Option kG:=uC n fl hs st ((nW n fl hs h i d k).map (kG.pre l))
def Cp (n:Nat) (fl:List UInt8) (hs:List (List UInt8)) (st:List xX) (x:List UInt8) (l:List (Nat × List UInt8)) (d k:Nat):Option kG:=uC n fl hs st (some ⟨x,l,d,k⟩)
section
variable {n:Nat} {fl:List UInt8} {hs:List (List UInt8)} {st:List xX} {h i:Nat} {l:List (Nat × List UInt8)} {d k:Nat}
theorem EW (e:fX fl d=none):mD n fl hs st h i l d k=none:=by
 unfold mD
 cases h <;> rw[nW,e] <;> exact jW ..
theorem Kr (e:fX fl d=some true):mD n fl hs st (h+1) i l d k=mD n fl hs (⟨h+1,i,none⟩ :: st) h (2*i) l (d+1) k:=by
 unfold mD
 rw[nW,e,Option.bind_some,if_pos rfl]
 cases e1:nW n fl hs h (2*i) (d+1) k with
 |none=>rw[Option.bind_none,Option.map_none,jW,jW]
 |some a=>
  rw[Option.bind_some,Option.map_some,uC]
  simp only[kG.pre,Nat.add_sub_cancel]
  split
  ·cases e2:nW n fl hs h (2*i+1) a.d a.k with
   |none=>rw[Option.bind_none,Option.map_none,jW]
   |some s=>
    rw[Option.bind_some]
    dsimp only
    split
    ·rename_i hx
     refine Eq.trans ?_ (if_pos hx).symm
     rw[Option.map_none,jW]
    ·rename_i hx
     refine Eq.trans ?_ (if_neg hx).symm
     rw[Option.map_some,kG.pre,List.append_assoc]
  ·rw[Option.map_some,kG.pre]
theorem Do {b:Bool} (hb:(b=true→h=0)) (e:fX fl d=some b) (e2:hs[k]? =none):mD n fl hs st h i l d k=none:=by
 unfold mD
 cases h with
 |zero=>rw[nW,e,e2];exact jW ..
 |succ h=>
  cases b with
  |true=>exact absurd (hb rfl) OM
  |false=>rw[nW,e,e2];exact jW ..
theorem EX {b:Bool} (hb:(b=true→h=0)) (e:fX fl d=some b) {x:List UInt8} (e2:hs[k]? =some x):mD n fl hs st h i l d k=Cp n fl hs st x (if b then l++ [(i,x)] else l) (d+1) (k+1):=by
 unfold mD Cp
 cases h with
 |zero=>
  rw[nW,e,e2]
  cases b <;> simp[kG.pre]
 |succ h=>
  cases b with
  |true=>exact absurd (hb rfl) OM
  |false=>
   rw[nW,e,e2]
   simp[kG.pre]
theorem MK {x:List UInt8}:Cp n fl hs [] x l d k=some ⟨x,l,d,k⟩:=rfl
theorem Hu {x:List UInt8}:Cp n fl hs (⟨h,i,some x⟩ :: st) x l d k=none:=by
 unfold Cp
 rw[uC,if_pos rfl]
theorem Hv {a x:List UInt8} (e:a≠x):Cp n fl hs (⟨h,i,some a⟩ :: st) x l d k=Cp n fl hs st (gZ a x) l d k:=by
 unfold Cp
 rw[uC,if_neg e]
theorem Hw {x:List UInt8} (e:2*i+1<mN n (h - 1)):Cp n fl hs (⟨h,i,none⟩ :: st) x l d k=mD n fl hs (⟨h,i,some x⟩ :: st) (h - 1) (2*i+1) l d k:=by
 unfold Cp mD
 rw[uC,if_pos e]
 dsimp only
 cases e1:nW n fl hs (h - 1) (2*i+1) d k with
 |none=>rw[Option.map_none,jW]
 |some s=>
  rw[Option.map_some,uC]
  rfl
theorem ML {x:List UInt8} (e:¬ 2*i+1<mN n (h - 1)):Cp n fl hs (⟨h,i,none⟩ :: st) x l d k=Cp n fl hs st (gZ x x) l d k:=by
 unfold Cp
 rw[uC,if_neg e]
end
end Go.Proofs.YtobjgebojhjhnaaGreatDoor
namespace Go.Proofs.YtobjgebojhjhnaaGreatDoor
set_option maxRecDepth 100000
set_option maxHeartbeats 16000000
open Go.RowKit Tryz
attribute [local go_sem high] eO gO gP
abbrev qG (tot:Nat) (Ah:Option Addr) (nh ch:Nat) (Af:Option Addr) (nf cf:Nat):List Value:=[.int .u32 (tot:Int),.slice Ah nh ch,.slice Af nf cf]
abbrev wF (tot:Nat) (Ah:Option Addr) (nh ch:Nat) (Af:Option Addr) (nf cf d k:Nat):List Value:=[.int .u32 (tot:Int),.slice Ah nh ch,.slice Af nf cf,.int .i64 (d:Int),.int .i64 (k:Int)]
theorem Dp:∀ v:Fin 256,bits .and .u8 (v.val:Int) 1=((v.val % 2:Nat):Int):=by decide
theorem sV (x s:Nat) (hx:x<256):(bits .and .u8 ((x:Int) / 2 ^ s) 1==1)=(x / 2 ^ s % 2==1):=by
 have e:(x:Int) / 2 ^ s=((x / 2 ^ s:Nat):Int):=by simp
 have h:=Dp ⟨x / 2 ^ s,Nat.lt_of_le_of_lt (Nat.div_le_self _ _) hx⟩
 dsimp only at h
 rw[e,h,Bool.eq_iff_iff]
 simp only[beq_iff_eq]
 omega
theorem Dq (tot:Nat) (Ah:Option Addr) (nh ch:Nat) (Af:Option Addr) (nf cf d k R:Nat) (hd:8*nf≤d) (hd2:d≤1000000) (w:World) (hA:Av w R 171 (wF tot Ah nh ch Af nf cf d k)):
  Calls prog 103 #[.pointer (some ⟨R,0,none⟩)] w fun e w'=>e= .returned (.tuple #[.bool false,.bool false])∧w'=w:=by
 unfold wF at hA
 have c2:=hA.cell 2 _ rfl
 have c3:=hA.cell 3 _ rfl
 obtain⟨q,hq⟩:=Nm (d / 8)
 have e1:(d:Int) / 8=(q:Int):=by omega
 have t1:decide ((nf:Int)≤(q:Int))=true:=by simp;omega
 replace hq:=Hy hq
 go_enter func103,ntmps103
 go_wp2
 go_ret2
 exact⟨rfl,rfl⟩
theorem Pi (fl:List UInt8) (b:Bool) (tot:Nat) (Ah:Option Addr) (nh ch:Nat) (Af:Option Addr) (nf cf d k R:Nat) (hnf:fl.length=nf) (hd:fX fl d=some b) (hd2:d≤1000000) (w:World) (hA:Av w R 171 (wF tot Ah nh ch Af nf cf d k)) (hr:Rd w Af (fl.map bv)) (hAf:∀ a,Af=some a→a.block≠R):
  Calls prog 103 #[.pointer (some ⟨R,0,none⟩)] w fun e w'=>e= .returned (.tuple #[.bool b,.bool true])∧Av w' R 171 (wF tot Ah nh ch Af nf cf (d+1) k)∧Fr (fun j=>j=R) w w':=by
 unfold wF at hA
 have c2:=hA.cell 2 _ rfl
 have c3:=hA.cell 3 _ rfl
 have f3:=frozen_of_row _ _ 3 _ _ hA
 have hlt:=dM hd
 rw[nF hlt] at hd
 obtain rfl:=Option.some.inj hd
 obtain⟨q,hq⟩:=Nm (d / 8)
 obtain⟨s,hs⟩:=Nm (d % 8)
 have e1:(d:Int) / 8=(q:Int):=by omega
 have e2:(d:Int) % 8=(s:Int):=by omega
 have t1:decide ((nf:Int)≤(q:Int))=false:=by simp;omega
 have s0:(0:Int)≤(s:Int):=by omega
 have s8:(s:Int)<8:=by omega
 have hqn:q<nf:=by omega
 rw[← hq,← hs]
 obtain⟨x,hx⟩:=Nm (fl.getD q 0)
 have hg:fl[q]? =some x:=by rw[hx,List.getD_eq_getElem?_getD,List.getElem?_eq_getElem OM];rfl
 rw[← hx]
 obtain⟨bb,off,e⟩:=hr.someA (by intro h;have:=congrArg List.length h;rw[List.length_map,hnf] at this;simp at this;omega)
 subst e
 have hbR:bb≠R:=hAf _ rfl
 have hcell:∀ w',Rd w' (some ⟨bb,off,none⟩) (fl.map bv)→w'.cell? ⟨bb,off+q,none⟩=some (bv x):=by
  intro w' h
  rcases h with h|⟨b',o',hA',hc⟩
  ·have:=congrArg List.length h;rw[List.length_map,hnf] at this;simp at this;omega
  ·cases hA'
   exact hc q _ (by rw[List.getElem?_map,hg];rfl)
 have fr1:=Fr.setCell w ⟨R,3,none⟩ (.int .i64 ((d:Int)+1))
 have cx:=hcell _ (fr1.rd hr (fun a e=>by cases e;exact hbR))
 have hA2:=hA.set 3 (.int .i64 ((d:Int)+1))
 have c2':=hA2.cell 2 _ rfl
 clear hcell
 replace hA2:=Hy hA2
 replace fr1:=Hy fr1
 replace hq:=Hy hq
 replace hs:=Hy hs
 replace hx:=Hy hx
 replace hg:=Hy hg
 replace hnf:=Hy hnf
 have hxl:=Cm.u8_lt x
 go_enter func103,ntmps103
 go_wp2
 go_ret2
 refine⟨?_,hA2.out,fr1.out⟩
 rw[sV _ _ hxl]
 rfl
theorem Xm136 {p q:Prop} (k:q) (h:Hid q→p:=by
 intro hk
 go_enter func105,ntmps105
 go_upto_region 1 with fail
 rw[← hW.out,← hH.out]
 refine ZR ?_
 repeat refine ZP (fun w hw=>by have:=(aR.b hw.drew).cell 4 _ rfl;have:=(aR.b hw.drew).cell 1 _ rfl;exact zG) ?_
 refine bO fun w2 hw2=>aF ?_
 have bw2:=bW.trans (hw2.drew.mono bW.size)
 have a2:=aH.b hw2.drew
 rename_i zq0 zq1 zq2 zq3 zq4
 revert zq0 zq1 zq2 zq3 zq4 w2 hw2 bw2 a2;exact hk.out):p:=h (Hy k)
theorem Xm84 {p q:Prop} (k:q) (h:Hid q→p:=by
 intro hk
 have hz:=eK
 obtain⟨zs,hzs⟩:∃ zs:List UInt8,zs=List.replicate 32 0:=⟨_,rfl⟩
 have hzl:(zs.map bv).length=32:=by rw[hzs];rfl
 rw[← hzs] at hz
 obtain⟨W,hW⟩:=Nm (w.alloc (.cells (zs.map bv).toArray 35))
 obtain⟨H,hH⟩:=Nm (w.heap.size)
 have bW:Below w.heap.size w W:=by rw[hW];exact(Below.refl _ _).alloc LR _
 have aH:Av W H 35 (zs.map bv):=by rw[hW,hH];exact heap_alloc_new _ _
 have aR:=hA.b bW
 have hone:(zs.map bv).all (·.oneCell')=true:=List.all_eq_true.2 (dB zs)
 replace hone:=Hy hone
 replace hzl:=Hy hzl
 revert zs hz hzs W hW H hH bW aH aR hone hzl;exact hk.out):p:=h (Hy k)
theorem EY (tot:Nat) (Ah:Option Addr) (nh ch:Nat) (Af:Option Addr) (nf cf d k R:Nat) (hd:nh≤k) (_:k≤1000000) (w:World) (hA:Av w R 171 (wF tot Ah nh ch Af nf cf d k)):
  Calls prog 105 #[.pointer (some ⟨R,0,none⟩)] w fun e w'=>e= .returned (.tuple #[.agg (cK (List.replicate 32 0)),.bool false])∧Below w.heap.size w w':=by
 unfold wF at hA
 have t1:decide ((nh:Int)≤(k:Int))=true:=by simp;omega
 refine Xm84 ?_;intro zs hz hzs W hW H hH bW aH aR hone hzl
 replace hW:=Hy hW
 replace hH:=Hy hH
 replace hzs:=Hy hzs
 refine Xm136 ?_;intro _ _ _ _ _ w2 hw2 bw2 a2
 have hge:w.heap.size≤H:=by rw[hH.out];exact Nat.le_refl _
 go_wp2_with (first
  |((with_reducible refine wpList_build (.agg (zs.map bv).toArray) ?_ ?_);(go_simp;first|done|rfl))
  |((with_reducible refine SF bw2 a2 hge (zs.map bv) 32 ?_ ?_ ?_ (hn:=hzl.out) (ho:=hzl.out) (h1:=hone.out));rfl;rfl;intro w3 a3 b3 k3 z3))
 refine bodyPost_ret (v:=.tuple #[.agg (cK zs),.bool false]) ((aK (C:=zs.map bv) bM bM a3 _ SS rfl 32 hzl.out KR).trans bM) bM ?_
 rw[← hzs.out]
 exact⟨rfl,b3⟩
theorem QD (hs:List (List UInt8)) (h32:dV hs) (x:List UInt8) (tot:Nat) (Ah:Option Addr) (nh ch:Nat) (Af:Option Addr) (nf cf d k R:Nat) (hnh:hs.length=nh) (hx:hs[k]? =some x) (hd2:k≤1000000) (w:World) (hA:Av w R 171 (wF tot Ah nh ch Af nf cf d k)) (hr:Rd w Ah (eB hs)) (hAh:∀ a,Ah=some a→a.block≠R):
  Calls prog 105 #[.pointer (some ⟨R,0,none⟩)] w fun e w'=>e= .returned (.tuple #[.agg (cK x),.bool true])∧Av w' R 171 (wF tot Ah nh ch Af nf cf d (k+1))∧Fr (fun j=>j=R) w w':=by
 obtain⟨hkl,hxe⟩:=List.getElem?_eq_some_iff.1 hx
 have hx32:x.length=32:=h32 x (by rw[← hxe];exact List.getElem_mem hkl)
 have hgd:hs.getD k []=x:=by rw[List.getD_eq_getElem?_getD,hx];rfl
 have hkn:k<nh:=by omega
 unfold wF at hA
 have t1:decide ((nh:Int)≤(k:Int))=false:=by simp;omega
 refine Xm84 ?_;intro zs hz hzs W hW H hH bW aH aR hone hzl
 obtain⟨bb,off,e⟩:=hr.someA (by intro h;have:=congrArg List.length h;rw[nC h32,hnh] at this;simp at this;omega)
 subst e
 have hbR:bb≠R:=hAh _ rfl
 have hrg:∀ w',Rd w' (some ⟨bb,off,none⟩) (eB hs)→w'.rangeAt bb (off+k*32) (x.map bv):=fun w' h=>by have:=h.hash h32 k hkl;rwa [hgd] at this
 have hbl:bb<w.heap.size:=hr.lt (by intro h;have:=congrArg List.length h;rw[nC h32,hnh] at this;simp at this;omega) _ rfl
 have hRl:R<w.heap.size:=hA.lt
 have hC1:(x.map bv).all (·.oneCell')=true:=List.all_eq_true.2 (dB x)
 have hC2:(x.map bv).length=32:=by rw[List.length_map,hx32]
 have hr0:=hr.b bW
 replace hxe:=Hy hxe
 replace hgd:=Hy hgd
 replace hx:=Hy hx
 replace hnh:=Hy hnh
 replace hW:=Hy hW
 replace hH:=Hy hH
 replace hzs:=Hy hzs
 replace hx32:=Hy hx32
 replace hC1:=Hy hC1
 replace hC2:=Hy hC2
 replace hrg:=Hy hrg
 refine Xm136 ?_;intro _ _ _ _ _ w2 hw2 bw2 a2
 have R2:=aR.b hw2.drew
 have r2:=hr0.b hw2.drew
 have c4:=R2.cell 4 _ rfl
 have f4:=frozen_of_row _ _ 4 _ _ R2
 have wk:IntKind.i64.wrap (k:Int)=(k:Int):=by rw[IntKind.wrap_i64];omega
 replace wk:=Hy wk
 go_upto_region 4 with fail
 obtain⟨w3,hw3⟩:=Nm (w2.setCell ⟨R,4,none⟩ (.int .i64 ((k:Int)+1)))
 have fr3:=Fr.setCell w2 ⟨R,4,none⟩ (.int .i64 ((k:Int)+1))
 have R3:=R2.set 4 (.int .i64 ((k:Int)+1))
 have hHR:H≠R:=by rw[hH.out];omega
 have hHb:bb≠H:=by rw[hH.out];omega
 have a3:=fr3.av a2 hHR
 have r3:=fr3.rd r2 (fun a e=>by cases e;exact hbR)
 rw[← hw3] at fr3 R3 a3 r3 ⊢
 replace hw3:=Hy hw3
 clear c4 f4 a2 R2 r2
 refine eH 13 [] [(12,fun w'=>Av w' H 35 (x.map bv))] (RS H 35 (x.map bv)) KR KR KR KR KR KR (fun w=>RS.refl w) RS.trans zI (by
  intro p hp w w' hR h
  simp only[List.mem_singleton] at hp
  subst hp
  exact hR.2.1 h) ?_
 repeat first|refine rU (fun w=>RS.refl w) rfl (cT (fun w=>RS.refl w) rfl rfl rfl rfl (fun w hw=>by have:=(hw.1.av R3.drew (Ne.symm hHR)).cell 1 _ rfl;have:=(hw.1.av R3.drew (Ne.symm hHR)).cell 4 _ rfl;have:=wk.out;exact zG) zZ (jC ?_))|refine rU (fun w=>RS.refl w) rfl (cT (fun w=>RS.refl w) rfl rfl rfl rfl (c:=.agg (cK x)) (fun w hw=>bJ _ _ rfl bb (off+k*32) rfl (x.map bv) _ (hrg.out _ ((Fr.ofDrew hw.1).rd r3 (fun a e=>by cases e;exact hHb))) SS rfl (by rw[hC2.out];kernel_rfl)) zZ (jC ?_))
 refine pJ rfl rfl (fun w hw=>fY (C:=x.map bv) a3.drew (by rw[hC2.out,hzl.out]) hw _ _ _ rfl rfl rfl 32 hC2.out KR hC1.out 12) ?_
 refine mG fun w5 hw5 hg=>?_
 simp only[List.drop_succ_cons,List.drop_zero]
 have a5:=hg (12,fun w'=>Av w' H 35 (x.map bv)) (List.mem_singleton.2 rfl)
 have f5:=Fr.ofDrew hw5.1
 have R5:=f5.av R3 (Ne.symm hHR)
 go_wp2
 refine bodyPost_ret (v:=.tuple #[.agg (cK x),.bool true]) ((aK (C:=x.map bv) bM bM a5 _ SS rfl 32 hC2.out KR).trans bM) bM ?_
 refine⟨rfl,R5,?_⟩
 exact Fr.transNew (Fr.transNew (Below.fr (S:=fun j=>j=R) bw2) fr3 (fun j h=>.inl h)) f5 (fun j h=>.inr (by rw[h,hH.out];exact Nat.le_refl _))
end Go.Proofs.YtobjgebojhjhnaaGreatDoor
namespace Go.Proofs.YtobjgebojhjhnaaGreatDoor
set_option maxRecDepth 100000
set_option maxHeartbeats 16000000
open Go.RowKit Tryz
attribute [local go_sem high] eO gO gP
abbrev sG (h i:Int):List Value:=[.int .i64 h,.int .i64 i]
theorem Av.new (w:World) (l:List Value) (t:TypeId):Av (w.alloc (.cells l.toArray t)) w.heap.size t l:=heap_alloc_new _ _
theorem Av.newer (w:World) (l:List Value) (t:TypeId) (o:Obj):Av ((w.alloc (.cells l.toArray t)).alloc o) w.heap.size t l:=(Av.new w l t).b ((Below.refl _ _).alloc LR _)
theorem qW (n h:Nat) (hn:n≤4096) (hh:h≤12):iF (n:Int) (h:Int)=((mN n h:Nat):Int):=by rw[EV n h hn hh,mN]
theorem QE (h i:Int) (h0:1≤h) (h1:h≤100) (i0:0≤i) (i1:i≤1000000) (w:World):
  Calls prog 104 #[.agg (sG h i).toArray] w fun e w'=>e= .returned (.agg (sG (h - 1) (2*i)).toArray)∧Below w.heap.size w w':=by
 unfold sG
 obtain⟨W,hW⟩:=Nm ((w.alloc (.cells [.int .i64 h,.int .i64 i].toArray 209)).alloc (.cells [.int .i64 0,.int .i64 0].toArray 209))
 obtain⟨H,hH⟩:=Nm (w.heap.size)
 have bW:Below w.heap.size w W:=by rw[hW];exact((Below.refl _ _).alloc LR _).alloc zS _
 have aN:Av W H 209 (sG h i):=by rw[hW,hH];exact Av.newer w (sG h i) _ _
 have aR:Av W (H+1) 209 (sG 0 0):=by rw[hW,hH,← World.size_alloc w (.cells [.int .i64 h,.int .i64 i].toArray 209)];exact heap_alloc_new _ _
 have c0:=aN.cell 0 _ rfl
 have c1:=aN.cell 1 _ rfl
 have hge:w.heap.size≤H+1:=by rw[hH];omega
 replace hW:=Hy hW
 replace hH:=Hy hH
 go_enter func104,ntmps104
 go_upto_region 1 with fail
 rw[← hW.out,← hH.out]
 go_wp2_with ((with_reducible refine SF bW aR hge (sG (h - 1) (2*i)) 2 ?_ ?_ ?_);rfl;rfl;intro w3 a3 b3 k3 z3)
 refine bodyPost_ret (results_cell_row rfl _ _ (H+1) _ _ (0,0) _ bM a3 Ts rfl KR) rfl ⟨rfl,b3⟩
theorem Pj (n h i:Nat) (hn:n≤4096) (h1:h≤12) (i1:i≤1000000) (w:World):
  Calls prog 107 #[.agg (sG ((h:Int)+1) (i:Int)).toArray,.int .i64 (n:Int)] w fun e w'=>e= .returned (.tuple #[.agg (sG (h:Int) (2*(i:Int)+1)).toArray,.bool (decide (2*i+1<mN n h))])∧Below w.heap.size w w':=by
 unfold sG
 have HW:=NT (n:Int) (h:Int)
 rw[qW n h hn h1] at HW
 obtain⟨b,hb⟩:=Nm (decide (2*i+1<mN n h))
 have hb2:decide (2*(i:Int)+1<(mN n h:Int))=b:=by rw[hb];exact decide_eq_decide.2 OM
 rw[← hb]
 generalize (mN n h:Int)=P at*
 obtain⟨W,hW⟩:=Nm ((w.alloc (.cells [.int .i64 ((h:Int)+1),.int .i64 (i:Int)].toArray 209)).alloc (.cells [.int .i64 0,.int .i64 0].toArray 209))
 obtain⟨H,hH⟩:=Nm (w.heap.size)
 have bW:Below w.heap.size w W:=by rw[hW];exact((Below.refl _ _).alloc LR _).alloc zS _
 have aN:Av W H 209 (sG ((h:Int)+1) (i:Int)):=by rw[hW,hH];exact Av.newer w (sG ((h:Int)+1) (i:Int)) _ _
 have aR:Av W (H+1) 209 (sG 0 0):=by rw[hW,hH,← World.size_alloc w (.cells [.int .i64 ((h:Int)+1),.int .i64 (i:Int)].toArray 209)];exact heap_alloc_new _ _
 have sW:W.heap.size=H+2:=by rw[hW,hH];simp
 have hge:w.heap.size≤H+1:=by rw[hH];omega
 have c0:=aN.cell 0 _ rfl
 have c1:=aN.cell 1 _ rfl
 replace hb:=Hy hb
 replace hb2:=Hy hb2
 replace HW:=Hy HW
 replace hW:=Hy hW
 replace hH:=Hy hH
 replace sW:=Hy sW
 go_enter func107,ntmps107
 go_upto_region 1 with fail
 rw[← hW.out,← hH.out]
 go_upto_region 2 with ((with_reducible refine SN (sG (h:Int) (2*(i:Int)+1)) 2 ?_ ?_ ?_);rfl;rfl;intro w3 a3 b3 k3 z3;clear k3;replace z3:=Hy z3)
 obtain⟨G,hG⟩:=Nm (W.heap.size)
 have hGH:G=H+2:=by rw[hG,sW.out]
 rw[← hG] at a3 ⊢
 replace hG:=Hy hG
 have bw3:=bW.trans (b3.mono bW.size)
 have r3:=aR.b b3
 have hne:G≠H+1:=by omega
 replace hGH:=Hy hGH
 clear aN aR c0 c1
 refine eH 9 [] [(8,fun w'=>Av w' (H+1) 209 (sG (h:Int) (2*(i:Int)+1)))] (RS (H+1) 209 (sG (h:Int) (2*(i:Int)+1))) KR KR KR KR KR KR (fun w=>RS.refl w) RS.trans zI (by
  intro p hp w w' hR h
  simp only[List.mem_singleton] at hp
  subst hp
  exact hR.2.1 h) ?_
 repeat first|refine rU (fun w=>RS.refl w) rfl (cT (fun w=>RS.refl w) rfl rfl rfl rfl (fun w hw=>by have:=(hw.1.av a3.drew hne).cell 1 _ rfl;have:=(hw.1.av a3.drew hne).cell 0 _ rfl;exact zG) zZ (jC ?_))|refine rU (fun w=>RS.refl w) rfl (cT (fun w=>RS.refl w) rfl rfl rfl rfl (c:=.agg (sG (h:Int) (2*(i:Int)+1)).toArray) (fun w hw=>aE (l:=sG (h:Int) (2*(i:Int)+1)) (hw.1.av a3.drew hne) _ _ rfl rfl _ 2 rfl Ts rfl KR) zZ (jC ?_))
 refine rU (fun w=>RS.refl w) rfl (tA rfl rfl rfl rfl (c:=.int .i64 P) 131 #[.int .i64 (n:Int),.int .i64 (h:Int)] (fun w=>by go_simp) (fun w hw=>(HW.out w).mono (by rintro e w' ⟨rfl,rfl⟩;exact⟨rfl,RS.refl _⟩)) zZ (jC ?_))
 repeat refine rU (fun w=>RS.refl w) rfl (cT (fun w=>RS.refl w) rfl rfl rfl rfl (fun w hw=>by have:=hb2.out;exact zG) zZ (jC ?_))
 refine pJ rfl rfl (fun w hw=>fY (C:=sG (h:Int) (2*(i:Int)+1)) r3.drew rfl hw _ _ _ rfl rfl rfl 2 rfl KR rfl 8) ?_
 refine mG fun w5 hw5 hg=>?_
 simp only[List.drop_succ_cons,List.drop_zero]
 have a5:=hg (8,fun w'=>Av w' (H+1) 209 (sG (h:Int) (2*(i:Int)+1))) (List.mem_singleton.2 rfl)
 have f5:=Fr.ofDrew hw5.1
 go_wp2
 refine bodyPost_ret (v:=.tuple #[.agg (sG (h:Int) (2*(i:Int)+1)).toArray,.bool b]) ((aK (C:=sG (h:Int) (2*(i:Int)+1)) bM bM a5 _ Ts rfl 2 rfl KR).trans bM) bM ?_
 exact⟨rfl,bw3.trans (f5.b (fun k hk=>by omega) bw3.size)⟩
theorem Xc23 {p:Prop} (h:p:=by
 obtain⟨W,hW⟩:=Nm (w.alloc (.cells [.int .u32 (tot:Int),.slice Ah nh ch,.slice Af nf cf].toArray 125))
 obtain⟨H,hH⟩:=Nm (w.heap.size)
 have bW:Below w.heap.size w W:=by rw[hW];exact(Below.refl _ _).alloc LR _
 have aT:Av W H 125 (qG tot Ah nh ch Af nf cf):=by rw[hW,hH];exact Av.new _ _ _
 have c0:=aT.cell 0 _ rfl
 have c1:=aT.cell 1 _ rfl
 have c2:=aT.cell 2 _ rfl
 replace hW:=Hy hW
 replace hH:=Hy hH
 clear aT
 go_enter func69,ntmps69
 go_upto_region 1 with fail
 rw[← hW.out,← hH.out]
 go_wp2
 go_ret
 exact⟨rfl,bW⟩):p:=h
theorem Hz (tot:Nat) (Ah:Option Addr) (nh ch:Nat) (Af:Option Addr) (nf cf:Nat) (_:nh≤1000000) (_:nf≤1000000) (_:tot<4294967296) (h:tot=0) (w:World):
  Calls prog 69 #[.agg (qG tot Ah nh ch Af nf cf).toArray] w fun e w'=>e= .returned (.bool false)∧Below w.heap.size w w':=by
 unfold qG
 have t1:((tot:Int)==0)=true:=by simp;omega
 replace h:=Hy h
 exact Xc23
theorem HJ (tot:Nat) (Ah:Option Addr) (nh ch:Nat) (Af:Option Addr) (nf cf:Nat) (_:nh≤1000000) (_:nf≤1000000) (ht:tot<4294967296) (h:4096<tot) (w:World):
  Calls prog 69 #[.agg (qG tot Ah nh ch Af nf cf).toArray] w fun e w'=>e= .returned (.bool false)∧Below w.heap.size w w':=by
 unfold qG
 have t1:((tot:Int)==0)=false:=by simp;omega
 have t2:decide ((4096:Int)<(tot:Int))=true:=by simp;omega
 exact Xc23
theorem HQ (tot:Nat) (Ah:Option Addr) (nh ch:Nat) (Af:Option Addr) (nf cf:Nat) (_:nh≤1000000) (_:nf≤1000000) (ht:tot<4294967296) (h0:tot≠0) (h:tot≤4096) (h2:tot<nh) (w:World):
  Calls prog 69 #[.agg (qG tot Ah nh ch Af nf cf).toArray] w fun e w'=>e= .returned (.bool false)∧Below w.heap.size w w':=by
 unfold qG
 have t1:((tot:Int)==0)=false:=by simp;omega
 have t2:decide ((4096:Int)<(tot:Int))=false:=by simp;omega
 have t3:decide ((nh:Int)≤(tot:Int))=false:=by simp;omega
 replace h0:=Hy h0
 exact Xc23
theorem Ks (tot:Nat) (Ah:Option Addr) (nh ch:Nat) (Af:Option Addr) (nf cf:Nat) (_:nh≤1000000) (hn2:nf≤1000000) (ht:tot<4294967296) (h0:tot≠0) (h:tot≤4096) (h2:nh≤tot) (b:Bool) (hb:decide (nh≤8*nf)=b) (w:World):
  Calls prog 69 #[.agg (qG tot Ah nh ch Af nf cf).toArray] w fun e w'=>e= .returned (.bool b)∧Below w.heap.size w w':=by
 unfold qG
 have t1:((tot:Int)==0)=false:=by simp;omega
 have t2:decide ((4096:Int)<(tot:Int))=false:=by simp;omega
 have t3:decide ((nh:Int)≤(tot:Int))=true:=by simp;omega
 have t4:decide ((nh:Int)≤8*(nf:Int))=b:=by rw[← hb];exact decide_eq_decide.2 OM
 replace hb:=Hy hb
 replace h0:=Hy h0
 exact Xc23
theorem RR (hs:List (List UInt8)) (fl:List UInt8) (tot:Nat) (Ah:Option Addr) (nh ch:Nat) (Af:Option Addr) (nf cf:Nat) (hnh:hs.length=nh) (hnf:fl.length=nf) (hn1:nh≤1000000) (hn2:nf≤1000000) (ht:tot<4294967296) (w:World):
  Calls prog 69 #[.agg (qG tot Ah nh ch Af nf cf).toArray] w fun e w'=>e= .returned (.bool (vP tot hs fl))∧Below w.heap.size w w':=by
 unfold vP
 rw[hnh,hnf]
 by_cases h0:tot=0
 ·rw[decide_eq_false (fun h=>h.1 h0)]
  exact Hz tot Ah nh ch Af nf cf hn1 hn2 ht h0 w
 by_cases h1:4096<tot
 ·rw[decide_eq_false OM]
  exact HJ tot Ah nh ch Af nf cf hn1 hn2 ht h1 w
 by_cases h2:tot<nh
 ·rw[decide_eq_false OM]
  exact HQ tot Ah nh ch Af nf cf hn1 hn2 ht h0 OM h2 w
 ·exact Ks tot Ah nh ch Af nf cf hn1 hn2 ht h0 OM OM _ (decide_eq_decide.2 OM) w
theorem MM (tot:Nat) (Ah:Option Addr) (nh ch:Nat) (Af:Option Addr) (nf cf d k R:Nat) (h:k≠nh) (w:World) (hA:Av w R 171 (wF tot Ah nh ch Af nf cf d k)):
  Calls prog 71 #[.pointer (some ⟨R,0,none⟩)] w fun e w'=>e= .returned (.bool false)∧Below w.heap.size w w':=by
 unfold wF at hA
 have t1:((k:Int)!=(nh:Int))=true:=by simp;omega
 go_enter func71,ntmps71
 go_upto_region 1 with fail
 refine ZR ?_
 repeat first|refine ZP (fun w hw=>by have:=(hA.b hw.drew).cell 4 _ rfl;have:=(hA.b hw.drew).cell 1 _ rfl;exact zG) ?_|refine ZS ?_
 refine bO fun w2 hw2=>aF ?_
 go_wp2
 go_ret
 exact⟨rfl,hw2.drew⟩
theorem Xm133 {p q:Prop} (k:q) (h:Hid q→p:=by
 intro hk
 go_enter func71,ntmps71
 go_upto_region 1 with fail
 refine ZR ?_
 repeat refine ZP (fun w hw=>by have:=(hA.b hw.drew).cell 4 _ rfl;have:=(hA.b hw.drew).cell 1 _ rfl;have:=(hA.b hw.drew).cell 3 _ rfl;have:=wk1.out;have:=wk2.out;have:=(hA.b hw.drew).cell 2 _ rfl;exact zG) ?_
 refine bO fun w2 hw2=>aF ?_
 rename_i zq0 zq1 zq2 zq3 zq4
 revert zq0 zq1 zq2 zq3 zq4 w2 hw2;exact hk.out):p:=h (Hy k)
theorem MN (tot:Nat) (Ah:Option Addr) (nh ch:Nat) (Af:Option Addr) (nf cf d k R:Nat) (hd2:d≤1000000) (h:k=nh) (hq:(d+7) / 8≠nf) (w:World) (hA:Av w R 171 (wF tot Ah nh ch Af nf cf d k)):
  Calls prog 71 #[.pointer (some ⟨R,0,none⟩)] w fun e w'=>e= .returned (.bool false)∧Below w.heap.size w w':=by
 unfold wF at hA
 subst h
 have t1:((k:Int)!=(k:Int))=false:=by simp
 obtain⟨q,hqq⟩:=Nm ((d+7) / 8)
 have wk1:IntKind.i64.wrap ((d:Int)+7)=(d:Int)+7:=by rw[IntKind.wrap_i64];omega
 have wk2:IntKind.i64.wrap (((d:Int)+7).tdiv 8)=(q:Int):=by rw[Int.tdiv_eq_ediv_of_nonneg OM,IntKind.wrap_i64];omega
 replace wk1:=Hy wk1
 replace wk2:=Hy wk2
 have t2:((q:Int)!=(nf:Int))=true:=by simp;omega
 replace hq:=Hy hq
 replace hqq:=Hy hqq
 refine Xm133 ?_;intro _ _ _ _ _ w2 hw2
 go_wp2
 go_ret
 exact⟨rfl,hw2.drew⟩
theorem HU {fl:List UInt8} {d j:Nat} (hj:j=(8 - d % 8) % 8) (h:∀ i,i<j→fX fl (d+i)≠some true):qV fl d=true:=by
 unfold qV
 rw[List.all_eq_true]
 intro i hi
 rw[List.mem_range] at hi
 simpa using h i OM
theorem Ia {fl:List UInt8} {d j:Nat} (hj:j<(8 - d % 8) % 8) (h:fX fl (d+j)=some true):qV fl d=false:=by
 unfold qV
 rw[List.all_eq_false]
 exact⟨j,List.mem_range.2 hj,by rw[h];simp⟩
theorem Ib (tot:Nat) (Ah:Option Addr) (nh ch:Nat) (Af:Option Addr) (nf cf d k R:Nat) (hd2:d≤1000000) (h:k=nh) (hq:(d+7) / 8=nf) (fl:List UInt8) (hnf:fl.length=nf) (w:World) (hr:Rd w Af (fl.map bv)) (hA:Av w R 171 (wF tot Ah nh ch Af nf cf d k)):
  Calls prog 71 #[.pointer (some ⟨R,0,none⟩)] w fun e w'=>e= .returned (.bool (qV fl d))∧Below w.heap.size w w':=by
 unfold wF at hA
 subst h
 have t1:((k:Int)!=(k:Int))=false:=by simp
 obtain⟨q,hqq⟩:=Nm ((d+7) / 8)
 have wk1:IntKind.i64.wrap ((d:Int)+7)=(d:Int)+7:=by rw[IntKind.wrap_i64];omega
 have wk2:IntKind.i64.wrap (((d:Int)+7).tdiv 8)=(q:Int):=by rw[Int.tdiv_eq_ediv_of_nonneg OM,IntKind.wrap_i64];omega
 replace wk1:=Hy wk1
 replace wk2:=Hy wk2
 have t2:((q:Int)!=(nf:Int))=false:=by simp;omega
 replace hqq:=Hy hqq
 have hq2:=hq
 replace hq:=Hy hq
 replace hnf:=Hy hnf
 refine Xm133 ?_;intro _ _ _ _ _ w2 hw2
 have bw2:=hw2.drew
 have A2:=hA.b bw2
 have r2:=hr.b bw2
 have c2:=A2.cell 2 _ rfl
 have c3:=A2.cell 3 _ rfl
 clear hA
 replace hq2:=Hy hq2
 go_wp2
 obtain⟨jm,hjm⟩:=Nm ((8 - d % 8) % 8)
 replace hjm:=Hy hjm
 go_loop [3] (fun v=>∃ j:Nat,j≤jm∧v= .int .i64 ((d+j:Nat):Int)∧Hid (∀ i,i<j→fX fl (d+i)≠some true)) (fun v=>jm - ((intOf v).toNat - d))
 case atStart=>exact⟨0,by omega,rfl,Hy (fun i hi=>absurd hi (Nat.not_lt_zero _))⟩
 case round=>
  obtain⟨j,hj,rfl,hall⟩:=hrel
  obtain⟨e,he⟩:=Nm (d+j)
  obtain⟨s,hs⟩:=Nm (e % 8)
  have e2:(e:Int) % 8=(s:Int):=by omega
  have s0:(0:Int)≤(s:Int):=by omega
  have s8:(s:Int)<8:=by omega
  have hel:e≤1000010:=by have:=hjm.out;omega
  rw[← he]
  by_cases hlt:j<jm
  ·have t3:((s:Int)!=0)=true:=by have:=hjm.out;simp;omega
   obtain⟨p,hp⟩:=Nm (e / 8)
   have e1:(e:Int) / 8=(p:Int):=by omega
   have hpn:p<nf:=by have:=hjm.out;have:=hq2.out;omega
   have hdg:fX fl e=some ((fl.getD p 0).toNat / 2 ^ s % 2==1):=by rw[hp,hs];exact nF (by rw[hnf.out];omega)
   obtain⟨x,hx⟩:=Nm (fl.getD p 0)
   have hg:fl[p]? =some x:=by rw[hx,List.getD_eq_getElem?_getD,List.getElem?_eq_getElem (by rw[hnf.out];exact hpn)];rfl
   rw[← hx] at hdg
   have hxl:=Cm.u8_lt x
   obtain⟨bb,off,rfl⟩:=r2.someA (by intro h;have:=congrArg List.length h;rw[List.length_map,hnf.out] at this;simp at this;omega)
   have cx:w2.cell? ⟨bb,off+p,none⟩=some (bv x):=by
    rcases r2 with h|⟨b',o',hA',hc⟩
    ·have:=congrArg List.length h;rw[List.length_map,hnf.out] at this;simp at this;omega
    ·cases hA'
     exact hc p _ (by rw[List.getElem?_map,hg];rfl)
   have hb0:=sV x.toNat s hxl
   obtain⟨b,hb⟩:=Nm ((x.toNat / 2 ^ s % 2==1))
   rw[← hb] at hb0 hdg
   replace hdg:=Hy hdg
   replace hb:=Hy hb
   replace hg:=Hy hg
   replace hx:=Hy hx
   replace hp:=Hy hp
   replace hs:=Hy hs
   replace he:=Hy he
   cases b
   ·go_wp2
    go_round
    case rel=>
     refine⟨j+1,by omega,?_,Hy ?_⟩
     ·rw[he.out];go_num
     ·intro i hi
      by_cases hij:i=j
      ·rw[hij,← he.out,hdg.out];simp
      ·exact hall.out i OM
    case measure=>
     have:=he.out
     simp[intOf]
     omega
   ·go_wp2
    go_ret
    refine⟨?_,bw2⟩
    rw[Ia (j:=j) (by have:=hjm.out;omega) (by rw[← he.out];exact hdg.out)]
    rfl
  ·obtain rfl:j=jm:=by omega
   have t3:((s:Int)!=0)=false:=by have:=hjm.out;simp;omega
   replace hs:=Hy hs
   replace he:=Hy he
   go_wp2
   go_ret
   refine⟨?_,bw2⟩
   rw[HU hjm.out hall.out]
   rfl
theorem QF (hs:List (List UInt8)) (fl:List UInt8) (tot:Nat) (Ah:Option Addr) (nh ch:Nat) (Af:Option Addr) (nf cf d k R:Nat) (hnh:hs.length=nh) (hnf:fl.length=nf) (hd2:d≤1000000) (w:World) (hr:Rd w Af (fl.map bv)) (hA:Av w R 171 (wF tot Ah nh ch Af nf cf d k)):
  Calls prog 71 #[.pointer (some ⟨R,0,none⟩)] w fun e w'=>e= .returned (.bool (sF hs fl d k))∧Below w.heap.size w w':=by
 unfold sF
 rw[hnh,hnf]
 by_cases h1:k=nh
 ·by_cases h2:(d+7) / 8=nf
  ·rw[decide_eq_true ⟨h1,h2⟩,Bool.true_and]
   exact Ib tot Ah nh ch Af nf cf d k R hd2 h1 h2 fl hnf w hr hA
  ·rw[decide_eq_false (fun h=>h2 h.2),Bool.false_and]
   exact MN tot Ah nh ch Af nf cf d k R hd2 h1 h2 w hA
 ·rw[decide_eq_false (fun h=>h1 h.1),Bool.false_and]
  exact MM tot Ah nh ch Af nf cf d k R h1 w hA
end Go.Proofs.YtobjgebojhjhnaaGreatDoor
namespace Go.Proofs.YtobjgebojhjhnaaGreatDoor
open Go.RowKit Tryz
def bV:List UInt8:=List.replicate 32 0
theorem Kt:bV.length=32:=rfl
def xY (f:xX):List Value:=[.int .i64 (f.h:Int),.int .i64 (f.i:Int)]++([.bool f.a.isSome]++(f.a.getD bV).map bv)
def xX.ok (f:xX):Prop:=(∀ a,f.a=some a→a.length=32)∧1≤f.h∧f.h≤12∧f.i≤4096
theorem BP {f:xX} (h:f.ok):(xY f).length=35:=by
 obtain⟨h',i,a⟩:=f
 cases a with
 |none=>rfl
 |some a=>simp[xY,h.1 a rfl]
theorem MO (f:xX):∀ u ∈ xY f,u.oneCell'=true:=by
 intro u hu
 simp only[xY,List.mem_append,List.mem_cons,List.not_mem_nil,or_false] at hu
 rcases hu with (rfl|rfl)|rfl|hu
 ·rfl
 ·rfl
 ·rfl
 ·exact dB _ u hu
def uX (p:Nat × List UInt8):List Value:=[.int .i64 (p.1:Int)]++p.2.map bv
theorem rL {p:Nat × List UInt8} (h:p.2.length=32):(uX p).length=33:=by simp[uX,h]
theorem BQ (p:Nat × List UInt8):∀ u ∈ uX p,u.oneCell'=true:=by
 intro u hu
 simp only[uX,List.mem_append,List.mem_singleton] at hu
 rcases hu with rfl|hu
 ·rfl
 ·exact dB _ u hu
def BR (sk:List xX):List Value:=sk.flatMap xY
def rX (l:List (Nat × List UInt8)):List Value:=l.flatMap uX
theorem BS {sk:List xX} (h:∀ f ∈ sk,f.ok):(BR sk).length=sk.length*35:=eW xY 35 sk fun e he=>BP (h e he)
theorem Gq {l:List (Nat × List UInt8)} (h:∀ p ∈ l,p.2.length=32):(rX l).length=l.length*33:=eW uX 33 l fun e he=>rL (h e he)
theorem uD (sk:List xX) (f:xX):BR sk++xY f=BR (sk++ [f]):=by simp[BR]
theorem Ds (l:List (Nat × List UInt8)) (p:Nat × List UInt8):rX l++uX p=rX (l++ [p]):=by simp[rX]
theorem Ku:(prog.info? 214).map (fun i=>(i.size,i.bytes))=some (35,56):=by kernel_rfl
theorem Kv:(prog.info? 214).map (fun i=>(i.zero.map (·.cells.size)))=some (some 35):=by kernel_rfl
theorem Kw:(prog.info? 131).map (fun i=>(i.size,i.bytes))=some (33,40):=by kernel_rfl
theorem Kx:(prog.info? 131).map (fun i=>(i.zero.map (·.cells.size)))=some (some 33):=by kernel_rfl
theorem Ky {w:World} {base:Nat} {e:TypeId} {size n:Nat} {v:Value} {xs:List Value} (h:w.ownsRow base e size v n xs) (hn:0<n):
  ∃ g cap rest,v= .slice (some ⟨g,0,none⟩) n cap∧base≤g∧n≤cap∧cap≤maxLen∧Av w g e (xs++rest)∧(xs++rest).length=cap*size:=by
 obtain⟨h1,h2⟩:=h
 rcases h2 with ⟨_,h0⟩|⟨g,cap,cur,e1,e2,e3,e4,e5,e6,e7⟩
 ·omega
 ·refine⟨g,cap,cur.toList.drop (n*size),e1,e2,e4,e5,?_,?_⟩
  ·rw[← e7,List.take_append_drop]
   exact e3
  ·rw[← e7,List.take_append_drop]
   simpa using e6
theorem AE {w:World} {base:Nat} {e:TypeId} {size n g cap:Nat} {xs rest:List Value} (hb:base≤g) (hc:n≤cap) (hm:cap≤maxLen) (ha:Av w g e (xs++rest)) (hl:(xs++rest).length=cap*size) (hx:xs.length=n*size):
  w.ownsRow base e size (.slice (some ⟨g,0,none⟩) n cap) n xs:=
 ⟨hx,.inr ⟨g,cap,(xs++rest).toArray,rfl,hb,ha,hc,hm,by simpa using hl,by simp[← hx]⟩⟩
theorem Av.ne {w:World} {g g':Nat} {t t':TypeId} {l l':List Value} (h:Av w g t l) (h':Av w g' t' l') (ht:t≠t'):g≠g':=by
 rintro rfl
 unfold Av at h h'
 rw[h] at h'
 injection Option.some.inj h' with _ h2
 exact ht h2
theorem eM {w:World} {base:Nat} {e t:TypeId} {size n g:Nat} {v:Value} {xs l:List Value} (h:w.ownsRow base e size v n xs) (ha:Av w g t l) (ht:e≠t):v.ownBlock≠some g:=by
 rcases h.2 with ⟨h1,_⟩|⟨g',cap,cur,e1,e2,e3,_⟩
 ·rw[h1];simp[Value.ownBlock]
 ·rw[e1]
  intro h'
  have:g'=g:=by simpa [Value.ownBlock] using h'
  subst this
  unfold Av at ha
  rw[e3] at ha
  injection Option.some.inj ha with _ h2
  exact ht h2
theorem Gr {w:World} {base base':Nat} {e e':TypeId} {size n size' n':Nat} {v v':Value} {xs xs':List Value} (h:w.ownsRow base e size v n xs) (h':w.ownsRow base' e' size' v' n' xs') (ht:e≠e'):∀ k,v'.ownBlock=some k→v.ownBlock≠some k:=by
 intro k hk
 rcases h'.2 with ⟨h1,_⟩|⟨g',cap,cur,e1,e2,e3,_⟩
 ·rw[h1] at hk;simp[Value.ownBlock] at hk
 ·have:g'=k:=by rw[e1] at hk;simpa [Value.ownBlock] using hk
  subst this
  rcases h.2 with ⟨h1,_⟩|⟨g,cap2,cur2,d1,d2,d3,_⟩
  ·rw[h1];simp[Value.ownBlock]
  ·rw[d1]
   intro h'
   have:g=g':=by simpa [Value.ownBlock] using h'
   subst this
   rw[d3] at e3
   injection Option.some.inj e3 with _ h2
   exact ht h2
theorem Fr.app {S:Nat→Prop} {w0 w w':World} {base:Nat} {e:TypeId} {size n:Nat} {v:Value} {xs:List Value} (h:Fr S w0 w) (ho:w.ownsRow base e size v n xs) (hb:w0.heap.size≤base) (hg:w.grownBy w' v.ownBlock):Fr S w0 w':=by
 refine⟨hg.os.trans h.os,hg.tape.trans h.tape,hg.output.trans h.output,Nat.le_trans h.size hg.size,fun k hk hs=>(hg.block k (Nat.lt_of_lt_of_le hk h.size) fun e=>?_).trans (h.block k hk hs)⟩
 have:=(World.ownsRow.lt ho k e.symm).1
 omega
theorem Kz (x y:List UInt8) (hx:x.length=32) (hy:y.length=32) (p q:Operand) (w:World):(do eqGuard .eql 35 p q (.agg (cK x)) (.agg (cK y));binOp .eql 35 (.agg (cK x)) (.agg (cK y)):Sem Value).run prog w= .ok (.bool (x==y)) w:=by
 rw[Sem.run_bind,show (eqGuard .eql 35 p q (.agg (cK x)) (.agg (cK y))).run prog w= .ok () w by go_simp,Result.andThen_ok]
 exact RP x y hx hy w
structure Su (tot:Nat) (Ah:Option Addr) (nh ch:Nat) (Af:Option Addr) (nf cf R G X B:Nat) (w0 w:World) (d k:Nat) (h i:Int) (v7 v8:Value) (sk:List xX) (l:List (Nat × List UInt8)):Prop where
 fr:Fr (fun j=>j=R) w0 w
 aR:Av w R 171 (wF tot Ah nh ch Af nf cf d k)
 aG:Av w G 35 (bV.map bv)
 aX:Av w X 209 (sG h i)
 o7:w.ownsRow B 214 35 v7 sk.length (BR sk)
 o8:w.ownsRow B 131 33 v8 l.length (rX l)
def sX (nf d:Nat) (sk:List xX):Nat:=3*(8*nf - d)+(sk.map fun f=>if f.a.isSome then 1 else 2).sum
def Pk (tot:Nat) (Ah:Option Addr) (nh ch:Nat) (Af:Option Addr) (nf cf R:Nat) (w0:World) (ans:Option kG) (e:Ending) (w':World):Prop:=
 Fr (fun j=>j=R) w0 w'∧match ans with
 |none=>e= .returned (.tuple #[.agg (cK bV),.slice none 0 0,.bool false])∧∃ d k,Av w' R 171 (wF tot Ah nh ch Af nf cf d k)
 |some r=>∃ A c,e= .returned (.tuple #[.agg (cK r.x),.slice A r.l.length c,.bool true])∧r.l.length≤c∧(∀ a,A=some a→w0.heap.size≤a.block)∧Rd w' A (rX r.l)∧Av w' R 171 (wF tot Ah nh ch Af nf cf r.d r.k)
end Go.Proofs.YtobjgebojhjhnaaGreatDoor
