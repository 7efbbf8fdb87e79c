import Derived.Test.YtobjgebojhjhnaaGreatDoorQr29
import Derived.Test.YtobjgebojhjhnaaGreatDoorZ6
namespace Go.Proofs.YtobjgebojhjhnaaGreatDoor
set_option maxRecDepth 100000
set_option maxHeartbeats 16000000
open Go.RowKit Tryz
theorem PD {x:Cf} (hx:x.ok) (p q:Operand) (w:World):(do eqGuard .neq 77 p q (.agg (eT x).toArray) (.agg (eT x).toArray);binOp .neq 77 (.agg (eT x).toArray) (.agg (eT x).toArray):Sem Value).run prog w= .ok (.bool false) w:=by
 rw[Sem.run_bind,show (eqGuard .neq 77 p q (.agg (eT x).toArray) (.agg (eT x).toArray)).run prog w= .ok () w by go_simp,Result.andThen_ok,run_neq_struct,JG 77 KR KR KR hx hx]
 simp
theorem Nk {l:List Cf} (h:∀ c ∈ l,c.ok):(yK l).length=l.length*66:=eW eT 66 l fun c hc=>cH (h c hc)
theorem Cj {w:World} {A:Option Addr} {l:List Cf} (h:∀ c ∈ l,c.ok) (r:Rd w A (yK l)) (hl:0<l.length):∃ b off,A=some ⟨b,off,none⟩:=r.someA fun e=>by
 have:=Nk h
 rw[e,List.length_nil] at this
 omega
theorem PE (l:List Cf) (hok:∀ c ∈ l,c.ok) (n:Nat) (hn:l.length=n) (hm:n≤1000000) (A B:Option Addr) (c d:Nat) (w:World) (rA:Rd w A (yK l)) (rB:Rd w B (yK l)):
  Calls prog 23 #[.slice A n c,.slice B n d] w fun e w'=>e= .returned (.bool true)∧Below w.heap.size w w':=by
 have u1:((n:Int)!=(n:Int))=false:=by simp
 replace hn:=Hy hn
 go_enter func23,ntmps23
 go_upto_region 4 with fail
 go_loopw [5] (fun i wr=>∃ j:Nat,j≤n∧i= .int .i64 (j:Int)∧Below w.heap.size w wr) (fun i _=>n - (intOf i).toNat)
 case atStart=>exact⟨0,by omega,rfl,Below.refl _ _⟩
 case round=>
  obtain⟨j,hj,rfl,bw⟩:=hrel
  by_cases hlt:j<n
  ·have t2:decide ((j:Int)<(n:Int))=true:=by simp;omega
   obtain⟨C,hC⟩:∃ C,l[j]? =some C:=⟨_,List.getElem?_eq_getElem (by rw[hn.out];exact hlt)⟩
   have Cok:=hok C (List.mem_of_getElem? hC)
   obtain⟨b1,o1,rfl⟩:=Cj hok rA (by rw[hn.out];omega)
   obtain⟨b2,o2,rfl⟩:=Cj hok rB (by rw[hn.out];omega)
   have R1:Hid (∀ w',Below wr.heap.size wr w'→w'.rangeAt b1 (o1+j*66) (eT C)):=Hy fun w' b=>Rd.piece eT 66 l (fun z hz=>cH (hok z hz)) ((rA.b bw).b b) j C hC
   have R2:Hid (∀ w',Below wr.heap.size wr w'→w'.rangeAt b2 (o2+j*66) (eT C)):=Hy fun w' b=>Rd.piece eT 66 l (fun z hz=>cH (hok z hz)) ((rB.b bw).b b) j C hC
   have C66:=Hy (cH Cok)
   have N1:=Hy (PD Cok)
   have m0:(0:Int)≤(j:Int):=by omega
   have m1:(j:Int)<(n:Int):=by omega
   replace hC:=Hy hC
   go_upto_region 6 with fail
   refine ZR ?_
   refine ZM ?_
   refine ZM ?_
   refine ZP (c:=.pointer (some ⟨b1,o1+j*66,none⟩)) (fun w _=>by have:=m0;have:=m1;go_simp;first|done|rfl) ?_
   refine ZP (c:=.agg (eT C).toArray) (fun w hw=>bJ _ _ rfl b1 (o1+j*66) rfl (eT C) _ (R1.out _ hw.drew) Tn rfl (by rw[C66.out];kernel_rfl)) ?_
   refine ZM ?_
   refine ZM ?_
   refine ZP (c:=.pointer (some ⟨b2,o2+j*66,none⟩)) (fun w _=>by have:=m0;have:=m1;go_simp;first|done|rfl) ?_
   refine ZP (c:=.agg (eT C).toArray) (fun w hw=>bJ _ _ rfl b2 (o2+j*66) rfl (eT C) _ (R2.out _ hw.drew) Tn rfl (by rw[C66.out];kernel_rfl)) ?_
   refine jN cI.refl rfl rfl rfl rfl _ _ _ _ _ rfl pB pB (c:=.bool false) (fun w=>N1.out _ _ w) zZ ?_
   refine bO fun w2 hw2=>aF ?_
   have b2':=bw.trans (hw2.drew.mono bw.size)
   clear hw2 bw
   go_wp2
   refine⟨⟨j+1,by omega,by go_num,b2'⟩,?_⟩
   simp[intOf]
   omega
  ·obtain rfl:j=n:=by omega
   have t2:decide ((j:Int)<(j:Int))=false:=by simp
   go_wp2
   go_ret
   exact⟨rfl,bw⟩
theorem PG (l:List Cf) (hok:∀ c ∈ l,c.ok) (n:Nat) (hn:l.length=n) (hm:n≤100000) (A:Option Addr) (c:Nat) (w:World) (rA:Rd w A (yK l)):
  Calls prog 24 #[.slice A n c] w fun e w'=>(∃ B d,e= .returned (.slice B n d)∧Rd w' B (yK l))∧Below w.heap.size w w':=by
 replace hn:=Hy hn
 go_enter func24,ntmps24
 go_upto_region 3 with fail
 go_loopw [3,4] (fun u i wr=>∃ j:Nat,j≤n∧i= .int .i64 (j:Int)∧Below w.heap.size w wr∧wr.ownsRow w.heap.size 77 66 u j (yK (l.take j))) (fun _ i _=>n - (intOf i).toNat)
 case atStart=>exact⟨0,by omega,rfl,Below.refl _ _,World.ownsRow_nil _ _ _ _⟩
 case round=>
  obtain⟨j,hj,rfl,bw,ow⟩:=hrel
  by_cases hlt:j<n
  ·have t2:decide ((j:Int)<(n:Int))=true:=by simp;omega
   obtain⟨C,hC⟩:∃ C,l[j]? =some C:=⟨_,List.getElem?_eq_getElem (by rw[hn.out];exact hlt)⟩
   have Cok:=hok C (List.mem_of_getElem? hC)
   obtain⟨b1,o1,rfl⟩:=Cj hok rA (by rw[hn.out];omega)
   have R1:=Rd.piece eT 66 l (fun z hz=>cH (hok z hz)) (rA.b bw) j C hC
   have C66:=Hy (cH Cok)
   have HL:=Hy (fun w'=>Oc C Cok w')
   have el:Hid (yK (l.take j)++eT C=yK (l.take (j+1))):=Hy (by
    rw[List.take_add_one,hC]
    simp[yK])
   have m0:(0:Int)≤(j:Int):=by omega
   have m1:(j:Int)<(n:Int):=by omega
   have sw:=bw.size
   replace hC:=Hy hC
   go_upto_region 4 with (first
    |((with_reducible refine LM R1 Tk ?_ ?_ (hi:=by rw[C66.out];kernel_rfl));rfl)
    |(go_at_call 22;refine(HL.out wr).mono ?_;rintro e w3 ⟨rfl,b3⟩;have ow3:=aJ ow b3;have bw3:=bw.trans (b3.mono bw.size))
    |((with_reducible refine dQ TC BX BZ DC DC (eT C) C66.out rfl ?_))
    |(at_builtin;refine bT TC BX BZ DC (aJ ow3 ((Below.refl w3.heap.size w3).alloc LR _)) (by have:=bw3.size;simp;omega) (eT C) 1 1 (Av.rd (t:=77) (heap_alloc_new _ _)) (by rw[C66.out]) (jA C) OM OM rfl (.tmp 11) (.tmp 17) rfl rfl rfl ?_;intro v4 w4 o4 gr4 ob4))
   have bw4:=fK (bw3.alloc bw3.size _) (aJ ow3 ((Below.refl w3.heap.size w3).alloc LR _)) gr4 (by have:=bw3.size;simp;omega)
   rw[el.out] at o4
   replace o4:=Hy o4
   go_wp2
   refine⟨⟨j+1,by omega,by go_num,bw4,o4.out⟩,?_⟩
   simp[intOf]
   omega
  ·obtain rfl:j=n:=by omega
   have t2:decide ((j:Int)<(j:Int))=false:=by simp
   rw[List.take_of_length_le (by rw[hn.out];exact Nat.le_refl _)] at ow
   obtain⟨B,d,rfl,_⟩:=cM ow
   have rB:=Hy (fV ow)
   clear ow
   go_wp2
   go_ret
   exact⟨⟨B,d,rfl,rB.out⟩,bw⟩
theorem AL (most:Nat) (l:List Hd):(jP most l).length≤most:=by
 unfold jP
 suffices h:∀ (l:List Hd) (ns:List Nd),ns.length≤most→(l.foldl (fun ns h=>(iD most ns h).1) ns).length≤most from h l [] (Nat.zero_le _)
 intro l
 induction l with
 |nil=>exact fun ns h=>h
 |cons x l ih=>
  intro ns h
  refine ih _ ?_
  show (iD most ns x).1.length≤most
  unfold iD
  split
  ·exact h
  ·split
   ·exact h
   ·split
    ·exact h
    ·simp;omega
theorem Xc126 {p:Prop} (h:p:=by
 have h1:=rs 0 (bv x) (by rw[List.getElem?_map,hx];rfl)
 have hb:b=g:=hg
 subst hb
 rw[cell_of_row w b _ _ t _ a] at h1
 simp only[Nat.zero_mul,Nat.add_zero,List.getElem?_toArray] at h1
 have hm:=List.mem_of_getElem? h1
 simp[bv] at hm):p:=h
theorem Fi {w w':World} {A:Option Addr} {ds:List Nd} (ok:Cx ds) {g:Nat} {t:TypeId} {B:Option Addr} {p q:Nat} {z:Int} (r:Rd w A (qF ds)) (a:Av w g t [.slice B p q,.int .i64 z]) (f:Fr (fun k=>k=g) w w'):Rd w' A (qF ds):=by
 cases ds with
 |nil=>exact .inl rfl
 |cons s L=>
  refine f.rd r ?_
  rintro ad hA hg
  obtain⟨b,off,hA2⟩:=r.someA fun e=>by
   have:=rH ok
   rw[e] at this
   simp at this
  rw[hA] at hA2
  injection hA2 with hA2
  subst hA2
  rw[hA] at r
  have sok:=ok s (List.mem_cons_self ..)
  have rs:=NV (Rd.piece gF 106 (s :: L) (fun e he=>dN (ok e he)) r 0 s rfl)
  obtain⟨x,hx⟩:∃ x,s.id[0]? =some x:=⟨_,List.getElem?_eq_getElem (by rw[sok.id];omega)⟩
  exact Xc126
def Fj (L:List Nd) (i1:Int) (i2:Nat):VP:=fun v w=>∃ A' c',v= .tuple #[.agg #[.slice A' L.length c',.int .i64 60],.int .i64 i1,.int .i64 (i2:Int)]∧L.length≤c'∧Rd w A' (qF L)
theorem Fj.mono {L:List Nd} {i1:Int} {i2:Nat} {v:Value} {w w':World} (h:cI w w'):Fj L i1 i2 v w→Fj L i1 i2 v w':=by
 rintro⟨A,c,rfl,hc,r⟩
 exact⟨A,c,rfl,hc,r.b h⟩
def QT (L:List Nd):VP:=fun v w=>∃ A' c',v= .agg #[.slice A' L.length c',.int .i64 60]∧L.length≤c'∧Rd w A' (qF L)
theorem QT.mono {L:List Nd} {v:Value} {w w':World} (h:cI w w'):QT L v w→QT L v w':=by
 rintro⟨A,c,rfl,hc,r⟩
 exact⟨A,c,rfl,hc,r.b h⟩
def QU (b:Nat):VP:=fun v w=>∃ g,v= .pointer (some ⟨g,0,none⟩)∧b≤g∧Av w g 47 [.slice none 0 0,.int .i64 0]
theorem QU.mono {b:Nat} {v:Value} {w w':World} (h:cI w w'):QU b v w→QU b v w':=by
 rintro⟨g,rfl,hg,a⟩
 exact⟨g,rfl,hg,a.b h⟩
theorem Xc159 {p:Prop} (h:p:=by
 exact⟨(Below.refl _ _).alloc LR _,w.heap.size,rfl,hw.drew.size,heap_alloc_new _ _⟩):p:=h
theorem PI (l:List Hd) (B:Option Addr) (m d:Nat) (hm:l.length=m) (hm2:m≤1000) (w:World) (rl:oS w B l):
  Calls prog 8 #[.slice B m d] w fun e w'=>(∃ A c,e= .returned (.agg #[.slice A (jP 60 l).length c,.int .i64 60])∧(jP 60 l).length≤c∧Rd w' A (qF (jP 60 l)))∧Below w.heap.size w w':=by
 have hok:∀ j,nH (jP 60 (l.take j)):=fun j=>Bz 60 _ fun h hh=>rl.2 h (List.mem_of_mem_take hh)
 obtain⟨W,hW⟩:=Nm (w.alloc (.cells #[.slice none 0 0,.int .i64 0] 47))
 obtain⟨H,hH⟩:=Nm (w.heap.size)
 refine Xm90 ?_;intro bW
 have aR:Av W H 47 [.slice none 0 0,.int .i64 0]:=by rw[hW,hH];exact heap_alloc_new _ _
 have HN:=Hy (OU W)
 have hHw:w.heap.size≤H:=by rw[hH];exact Nat.le_refl _
 have hWs:H<W.heap.size:=aR.lt
 replace hW:=Hy hW
 replace hH:=Hy hH
 replace hm:=Hy hm
 go_enter func8,ntmps8
 go_upto_region 1 with fail
 rw[← hW.out,← hH.out]
 go_upto_region 2 with (first
  |(go_at_call 30;refine(HN.out).mono ?_;rintro e w1 ⟨rfl,b1⟩)
  |((with_reducible refine SN [.slice none 0 0,.int .i64 60] 2 ?_ ?_ ?_);rfl;rfl;intro w2 a2 b2 k2 z2;clear k2;replace z2:=Hy z2))
 replace b2:=b1.trans (b2.mono b1.size)
 have bw:=bW.trans (b2.mono bW.size)
 replace aR:=aR.b b2
 obtain⟨g,hg⟩:=Nm (w1.heap.size)
 rw[← hg] at a2 ⊢
 have hHg:H<g:=by have:=b1.size;omega
 have hgw:w.heap.size≤g:=by omega
 replace hg:=Hy hg
 clear b1 b2 bW hWs
 go_upto_region 3 with fail
 go_loopw [4] (fun i wr=>∃ (j:Nat) (A:Option Addr) (c:Nat),j≤m∧i= .int .i64 (j:Int)∧Below w.heap.size w wr∧Av wr H 47 [.slice none 0 0,.int .i64 0]∧Av wr g 47 [.slice A (jP 60 (l.take j)).length c,.int .i64 60]∧(jP 60 (l.take j)).length≤c∧Rd wr A (qF (jP 60 (l.take j)))) (fun i _=>m - (intOf i).toNat)
 case atStart=>exact⟨0,none,0,by omega,rfl,bw,aR,a2,Nat.le_refl _,.inl rfl⟩
 case round=>
  clear bw aR a2
  obtain⟨j,A,c,hj,rfl,bw,aR,aT,hnc,rA⟩:=hrel
  by_cases hlt:j<m
  ·have t1:decide ((j:Int)<(m:Int))=true:=by simp;omega
   obtain⟨h,hh⟩:∃ h,l[j]? =some h:=⟨_,List.getElem?_eq_getElem (by rw[hm.out];exact hlt)⟩
   have hstep:=Ad 60 l j h hh
   have hhok:=rl.2 h (List.mem_of_getElem? hh)
   have ok1:=hok j
   have ok2:=(hok (j+1)).nds
   have l60:=AL 60 (l.take j)
   have HA:=fun w' r=>PC A _ c 60 _ h hhok rfl l60 OM ok1 hnc w' r
   obtain⟨ds,hds⟩:=Nm (jP 60 (l.take j))
   rw[← hds] at hstep HA l60 ok1 aT rA hnc
   obtain⟨n,hn⟩:=Nm (ds.length)
   rw[← hn] at HA aT hnc l60
   obtain⟨L,i1,i2,hL⟩:∃ L i1 i2,iD 60 ds h=(L,i1,i2):=⟨_,_,_,rfl⟩
   rw[hL] at HA hstep
   dsimp only at HA hstep
   rw[hstep] at ok2
   obtain⟨b,off,rfl⟩:=rl.adr (by rw[hm.out];omega)
   have rh:=Hy (fun w' b'=>(((rl.b bw).b (w':=w') b').nth j h hh).1)
   have h68:=Hy (cJ hhok)
   have m0:(0:Int)≤(j:Int):=by omega
   have m1:(j:Int)<(m:Int):=by omega
   have ok1n:=Hy ok1.nds
   replace ok2:=Hy ok2
   replace hh:=Hy hh
   replace hstep:=Hy hstep
   replace HA:=Hy HA
   replace hds:=Hy hds
   replace hn:=Hy hn
   replace hL:=Hy hL
   have gw:g<wr.heap.size:=aT.lt
   go_upto_region 5 with fail
   refine kI [(8,11),(9,11),(9,12)] 11 [(5,Fj L i1 i2),(6,Fj L i1 i2),(7,QT L),(10,QU wr.heap.size)] cI KR (by simp only[pA,mP,List.push_toArray,List.cons_append,List.nil_append];rfl) KR (fun _ _ _ _ _ h=>h) KR KR KR KR cI.refl cI.trans (by intro p hp v w w' hR;simp only[List.mem_cons,List.not_mem_nil,or_false] at hp;rcases hp with rfl|rfl|rfl|rfl;exact Fj.mono hR;exact Fj.mono hR;exact QT.mono hR;exact QU.mono hR) ?_
   refine ZP (c:=.agg ([.slice A n c,.int .i64 60]).toArray) (fun w hw=>aE (aT.b hw.drew) _ _ rfl rfl _ 2 rfl Ta rfl KR) ?_
   refine ZM ?_
   refine ZM ?_
   refine ZP (c:=.pointer (some ⟨b,off+j*68,none⟩)) (fun w _=>by have:=m0;have:=m1;go_simp;first|done|rfl) ?_
   refine ZP (c:=.agg (fC h).toArray) (fun w hw=>bJ _ _ rfl b (off+j*68) rfl (fC h) _ (rh.out _ hw.drew) Tb rfl (by rw[h68.out];kernel_rfl)) ?_
   refine cO _ rfl (fun w hw=>aM rfl (bI rfl (cG 31 #[.agg #[.slice A n c,.int .i64 60],.agg (fC h).toArray] (by go_simp) ((HA.out w (rA.b hw.drew)).mono ?_)))) ?_
   ·rintro e w' ⟨⟨A',c',rfl,hc',r'⟩,b'⟩
    exact⟨_,rfl,b',A',c',rfl,hc',r'⟩
   refine cO _ rfl (fun w hw=>aC rfl rfl fun v hv=>aM rfl (bI rfl ?_)) ?_
   ·exact⟨cI.refl _,hv⟩
   refine cO _ rfl (fun w hw=>bN rfl (aC rfl rfl fun v hv=>aM rfl (bI rfl ?_))) ?_
   ·obtain⟨A',c',rfl,hc',r'⟩:=hv
    exact⟨cI.refl _,A',c',rfl,hc',r'⟩
   refine rY rfl rfl (c:=.int .i64 i1) (fun w hw=>bN rfl (aC rfl rfl fun v hv=>aM rfl (bI rfl ?_))) zZ ?_
   ·obtain⟨A',c',rfl,hc',r'⟩:=hv
    exact⟨cI.refl _,rfl⟩
   refine rY rfl rfl (c:=.int .i64 (i2:Int)) (fun w hw=>bN rfl (aC rfl rfl fun v hv=>aM rfl (bI rfl ?_))) zZ ?_
   ·obtain⟨A',c',rfl,hc',r'⟩:=hv
    exact⟨cI.refl _,rfl⟩
   refine cO _ rfl (fun w hw=>aM rfl (bI rfl ?_)) ?_
   ·exact Xc159
   refine bO fun w6 hw6=>aC rfl rfl fun v1 hv1=>aC rfl rfl fun v2 hv2=>aC rfl rfl fun v3 hv3=>aC rfl rfl fun v4 hv4=>aF ?_
   obtain⟨A4,c4,rfl,hc4,r4⟩:=hv3
   obtain⟨G,rfl,hG,zG⟩:=hv4
   clear hv1 hv2
   refine Xm140 ?_
   have b6:=hw6.drew
   have bw6:=bw.trans (b6.mono bw.size)
   have aR6:=aR.b b6
   have aT6:=aT.b b6
   have hGw:w.heap.size≤G:=by omega
   clear hw6 b6 aR aT rA rh
   go_upto_region 6 with ((with_reducible refine SF bw6 zG hGw [.slice A4 L.length c4,.int .i64 60] 2 ?_ ?_ ?_);rfl;rfl;intro w7 a7 b7 k7 z7)
   have f7:Fr (fun i=>i=G) w6 w7:=⟨b7.os.trans bw6.os.symm,b7.tape.trans bw6.tape.symm,b7.output.trans bw6.output.symm,by rw[z7];exact Nat.le_refl _,fun i _ hi=>k7 i hi⟩
   have r7:=Fi ok2.out r4 zG f7
   have aR7:=aR6.same (k7 H OM)
   have aT7:=aT6.same (k7 g OM)
   clear f7 k7 z7 r4 zG bw6 aR6 aT6
   go_upto_region 4 with (first
    |((with_reducible refine LH a7 2 Ta ?_ ?_);rfl)
    |((with_reducible refine SF b7 aT7 hgw [.slice A4 L.length c4,.int .i64 60] 2 ?_ ?_ ?_);rfl;rfl;intro w8 a8 b8 k8 z8))
   have f8:Fr (fun i=>i=g) w7 w8:=⟨b8.os.trans b7.os.symm,b8.tape.trans b7.tape.symm,b8.output.trans b7.output.symm,by rw[z8];exact Nat.le_refl _,fun i _ hi=>k8 i hi⟩
   have r8:=Fi ok2.out r7 aT7 f8
   have aR8:=aR7.same (k8 H OM)
   clear f8 k8 z8 r7 aT7 a7 b7 aR7
   go_wp2
   refine⟨⟨j+1,A4,c4,by omega,by go_num,b8,aR8,by rw[hstep.out];exact a8,by rw[hstep.out];exact hc4,by rw[hstep.out];exact r8⟩,?_⟩
   simp[intOf]
   omega
  ·obtain rfl:j=m:=by omega
   have t1:decide ((j:Int)<(j:Int))=false:=by simp
   have e:l.take j=l:=List.take_of_length_le (by rw[hm.out];exact Nat.le_refl _)
   rw[e] at aT hnc rA
   have okl:=(hok j).nds
   rw[e] at okl
   obtain⟨ds,hds⟩:=Nm (jP 60 l)
   rw[← hds] at aT hnc rA okl
   obtain⟨n,hn⟩:=Nm (ds.length)
   rw[← hn] at aT hnc
   replace hds:=Hy hds
   replace hn:=Hy hn
   clear e hok
   go_wp2_with (first
    |((with_reducible refine LH aT 2 Ta ?_ ?_);rfl)
    |((with_reducible refine SF bw aR hHw [.slice A n c,.int .i64 60] 2 ?_ ?_ ?_);rfl;rfl;intro w9 a9 b9 k9 z9))
   refine bodyPost_ret (results_cell_row rfl _ _ H _ _ (0,0) _ bM a9 Ta rfl KR) rfl ⟨⟨A,c,by rw[← hds.out,← hn.out],by rw[← hds.out,← hn.out];exact hnc,?_⟩,b9⟩
   rw[← hds.out]
   exact Fi okl rA aR ⟨b9.os.trans bw.os.symm,b9.tape.trans bw.tape.symm,b9.output.trans bw.output.symm,by rw[z9];exact Nat.le_refl _,fun i _ hi=>k9 i hi⟩
theorem gL {P:Program} {t e:TypeId} {size bytes:Nat} (ht:P.underlying t=some (.slice e)) (hi:(P.info? e).map (fun i=>(i.size,i.bytes))=some (size,bytes)) (hz:(P.info? e).map (fun i=>(i.zero.map (·.cells.size)))=some (some size)) (h0:0<size) (hb:size≤1000000)
  (cs:List Value) (hc:cs.length=size) (V:Value) (hV:V.cells=cs.toArray) {ops:Array Oper} {rest:List Oper} {a:Act} {w:World} {Q:Exit→Act→World→Prop} {d ty pos af} {y:Operand} (hy:a.eval y=V)
  (k:∀ w2,w2=w.alloc (.cells cs.toArray e)→wpList P ops Q rest (a.put d (.slice (some ⟨w.heap.size,0,none⟩) 1 1)) w2):wpList P ops Q (⟨d,.buildSlice t 1 #[(0,y)],ty,pos,af,none⟩ :: rest) a w:=
 eF rfl (qR ht hi hz h0 hb w cs hc V hV y rfl hy) (k _ rfl)
theorem Fl:(prog.info? 5).map (fun i=>(i.size,i.bytes))=some (1,1):=by kernel_rfl
theorem Fp:(prog.info? 5).map (fun i=>(i.zero.map (·.cells.size)))=some (some 1):=by kernel_rfl
theorem Nl:(prog.info? 37).map (fun i=>(i.size,i.bytes))=some (68,80):=by kernel_rfl
theorem Nn:(prog.info? 37).map (fun i=>(i.zero.map (·.cells.size)))=some (some 68):=by kernel_rfl
def uI:lI:=⟨List.replicate 32 0,0,[],0⟩
def nP:fA:=⟨0,[5]⟩
def DR:FZ:=⟨0,[uI],[nP],0⟩
theorem Np:uI.ok:=by unfold lI.ok;decide
theorem Ld:nP.ok:=by unfold fA.ok;decide
theorem It:iL [] [5]=([[5]],0):=by decide
theorem Nq:kF [[5]] [] DR=([lW (yT DR)],true):=by
 have h1:fN DR=true:=by decide
 have h2:Eb DR [[5]] []=true:=by decide
 unfold kF Gm
 rw[h1,h2,if_pos zS]
 rfl
def jJ (I:List UInt8):Hd:=⟨0,List.replicate 32 0,I,0,0,0⟩
theorem Nr {I:List UInt8} (h:I.length=32):(jJ I).ok:=by
 unfold Hd.ok jJ
 simp[h]
theorem Le (h:Hd):jP 60 [h]= [⟨dS h,h,-1,0,fE h.bits⟩]:=by
 have e:jP 60 [h]=(iD 60 [] h).1:=rfl
 rw[e]
 unfold iD gS bZ
 simp
theorem Gx (h:Hd):bZ (jP 60 [h]) (dS h)=some 0:=by
 rw[Le]
 simp[bZ]
theorem PK (I:List UInt8):kJ 1 [I] [1]=some ⟨I,[(0,I)],1,1⟩:=by
 have h1:vP 1 [I] [1]=true:=by simp[vP]
 have h2:xT 1=0:=by decide
 have h3:fX [1] 0=some true:=by decide
 have h4:qV [1] 1=true:=by decide
 have h5:nW 1 [1] [I] 0 0 0 0=some ⟨I,[(0,I)],1,1⟩:=by
  rw[nW,h3]
  simp
 unfold kJ
 rw[if_pos h1,h2,h5]
 simp[sF,h4]
theorem Fq {ds:List Nd} {T:List (List UInt8)} {N:List Sn} {h:Hd} {tot:Nat} {hs:List (List UInt8)} {fl:List UInt8} {k:Nat} {r:kG} (h1:bZ ds (dS h)=some k) (h2:kJ tot hs fl=some r) (h3:r.x=h.root):
  iJ ds T N h tot hs fl=((nN T (dS h) r.l N).1,(nN T (dS h) r.l N).2,0):=by
 unfold iJ
 rw[h1,h2]
 simp only
 rw[if_pos h3]
theorem Ns (I B:List UInt8):nN [I] B [(0,I)] []=([⟨I,B,0⟩],1):=by
 simp[nN,lK]
theorem Lf {I:List UInt8}:iJ (jP 60 [jJ I]) [I] [] (jJ I) 1 [I] [1]=([⟨I,dS (jJ I),0⟩],1,0):=by
 rw[Fq (Gx (jJ I)) (PK I) rfl]
 have:=Ns I (dS (jJ I))
 generalize nN [I] (dS (jJ I)) [(0,I)] []=Z at this ⊢
 rw[this]
theorem PL (h:Hd):rV (jP 60 [h]) 0 0=1:=by
 rw[Le]
 simp[rV,NW,dP,jE]
theorem Ft {ns:List Nd} {tip:Int} {s:Sn} {i:Nat} (h:bZ ns s.blk=some i):fF ns tip s=⟨s.id,s.blk,s.pos,rV ns tip i⟩:=by
 unfold fF
 rw[h]
theorem Fu {ns:List Nd} {tip:Int} {x:List UInt8} {s:Sn} (h:lJ ns tip x s=true):iT ns tip x [s]=(fF ns tip s,true):=by
 unfold iT
 rw[List.find?_cons_of_pos h]
theorem Lg {ns:List Nd} {tip:Int} {x:List UInt8} {s:Sn} (h1:s.id=x) (h2:(fF ns tip s).dep=1):lJ ns tip x s=true:=by
 unfold lJ
 rw[h1,h2]
 simp
theorem Iu {ns:List Nd} {I B:List UInt8} (h:bZ ns B=some 0) (d:rV ns 0 0=1):iT ns 0 I [⟨I,B,0⟩]=(⟨I,B,0,1⟩,true):=by
 have h1:=Ft (ns:=ns) (tip:=0) (s:=⟨I,B,0⟩) h
 rw[d] at h1
 rw[Fu (ns:=ns) (tip:=0) (x:=I) (s:=⟨I,B,0⟩) (Lg rfl (by rw[h1])),h1]
theorem Lh {I:List UInt8}:iT (jP 60 [jJ I]) 0 I [⟨I,dS (jJ I),0⟩]=(⟨I,dS (jJ I),0,1⟩,true):=by
 exact Iu (Gx (jJ I)) (PL (jJ I))
theorem Nt:(prog.info? 91).map (fun i=>(i.size,i.bytes))=some (35,72):=by kernel_rfl
theorem Nu:(prog.info? 91).map (fun i=>(i.zero.map (·.cells.size)))=some (some 35):=by kernel_rfl
theorem Li:(prog.info? 94).map (fun i=>(i.size,i.bytes))=some (2,32):=by kernel_rfl
theorem Lj:(prog.info? 94).map (fun i=>(i.zero.map (·.cells.size)))=some (some 2):=by kernel_rfl
theorem PM:(sB (uI,((none,0):Sl))).length=35:=rfl
theorem Iv (A:Option Addr):prog.built 94 [(1,.slice A 1 1)]=some (kB (nP,((A,1):Sl))).toArray:=by kernel_rfl
theorem Lk (A B:Option Addr):prog.built 63 [(1,.slice A 1 1),(2,.slice B 1 1)]=some ([.int .u32 0,.slice A 1 1,.slice B 1 1,.int .u32 0]:List Value).toArray:=by kernel_rfl
theorem Ll:(prog.info? 37).map (·.zero)=some (some (.agg (fC dO.head).toArray)):=by kernel_rfl
theorem Iw:zeroCells37=(fC dO.head).toArray:=by kernel_rfl
theorem Fv:(match prog.underlying 37 with|some (.struct fs)=>fs.toList.mapM (fun f=>(prog.info? f.type).map fun i=>(f.offset,i.size))|_=>none)=some [(0,1),(1,32),(33,32),(65,1),(66,1),(67,1)]:=by kernel_rfl
theorem Ix (I:List UInt8) (hI:I.length=32):prog.built 37 [(2,.agg (cK I))]=some (fC (jJ I)).toArray:=by
 have hp:=Fv
 rw[Tb] at hp
 rw[fL Tb Ll hp]
 have z32:((List.replicate 32 (0:UInt8)).map bv).length=32:=rfl
 show Instr.fill _ ((([Value.int .u32 0]++(List.replicate 32 (0:UInt8)).map bv)++((List.replicate 32 (0:UInt8)).map bv++ [Value.int .u32 0,Value.int .u32 0,Value.int .u32 0])):List Value).toArray _=some ([Value.int .u32 0]++((List.replicate 32 (0:UInt8)).map bv++(I.map bv++ [Value.int .u32 0,Value.int .u32 0,Value.int .u32 0]))).toArray
 generalize (List.replicate 32 (0:UInt8)).map bv=Z at*
 refine Eq.trans (dA ([Value.int .u32 0]++Z) Z (I.map bv) _ (off:=33) (size:=32) rfl rfl (by simpa using hI) (by simp[z32]) z32) ?_
 simp[Instr.fill]
theorem Gy (w:World) (ht:fW w):Calls prog 4 #[] w fun e w'=>e= .returned (.bool true)∧Below w.heap.size w w':=by
 have hb0:Hid (∀ (a:Act) (w':World) d tp pos af,(execOp a.eval ⟨d,.build 51 #[],tp,pos,af,none⟩).run prog w'= .ok (.value (.agg (bS none none none 0 0 0 0 0 0).toArray)) w'):=Hy (fun a w' d tp pos af=>by kernel_rfl)
 have hb1:Hid (∀ (a:Act) (w':World) d tp pos af,(execOp a.eval ⟨d,.build 91 #[],tp,pos,af,none⟩).run prog w'= .ok (.value (.agg (sB (uI,((none,0):Sl))).toArray)) w'):=Hy (fun a w' d tp pos af=>by kernel_rfl)
 have HSc:=fun w' B (r:Rd w' B (([5]:List UInt8).map bv))=>Gj [] none none none 0 0 0 0 0 0 rfl OM [5] B 1 1 rfl w' (dU.nil _ _) r
 rw[List.map_nil,It] at HSc
 dsimp only at HSc
 obtain⟨I,hI⟩:=Nm (lW (yT DR))
 have I32:I.length=32:=by rw[hI];exact fP _
 obtain⟨B,hB⟩:=Nm (dS (jJ I))
 have B32:B.length=32:=by rw[hB];exact fZ _
 have hhok:=Nr I32
 have k32:=Hy (show (I.map bv).length=32 by rw[List.length_map,I32])
 have ione:=Hy (show (I.map bv).all (·.oneCell')=true by rw[List.all_eq_true];exact dB I)
 have h68:=Hy (cJ hhok)
 have hone:=Hy (List.all_eq_true.2 (Bt (jJ I)))
 have hhb:=Hy (Ix I I32)
 have hzh:=Iw
 obtain⟨zs,hzs⟩:=Nm (fC dO.head)
 have hzl:zs.length=68:=by rw[hzs];rfl
 rw[← hzs] at hzh
 clear hzs
 have hzc:=qQ
 obtain⟨ys,hys⟩:=Nm (eT gY)
 have hyl:ys.length=66:=by rw[hys];exact cH jV
 rw[← hys] at hzc
 clear hys
 replace HSc:=Hy HSc
 replace hI:=Hy hI
 replace hB:=Hy hB
 replace I32:=Hy I32
 replace B32:=Hy B32
 replace hzl:=Hy hzl
 replace hyl:=Hy hyl
 go_enter func4,ntmps4
 go_upto_region 2 with (first
  |((with_reducible refine cF (.agg (bS none none none 0 0 0 0 0 0).toArray) ?_ ?_);exact hb0.out _ _ _ _ _ _)
  |((with_reducible refine gL Tc Fl Fp DC DC ([.int .u8 5]) rfl (.int .u8 5) rfl ?_ ?_);rfl;intro w1 hw1;have b1:Below w.heap.size w w1:=(by rw[hw1];exact(Below.refl _ _).alloc LR _);have qw1:Av w1 w.heap.size 5 ([.int .u8 5]):=(by rw[hw1];exact heap_alloc_new _ _);replace hw1:=Hy hw1;have r1:Rd w1 (some ⟨w.heap.size,0,none⟩) (([5]:List UInt8).map bv):=qw1.rd)
  |(go_at_call 9;refine(HSc.out w1 _ r1).mono ?_;rintro e w2 ⟨A1,n1,c1,S1,rfl,hn1,rS1,eS1,b2⟩;have hn1':n1=1:=(by rw[← hn1,← List.length_map (f:=fun x:List UInt8 × Sl=>x.1),eS1];rfl);subst hn1')
  |((with_reducible refine SN (bS A1 none none 1 c1 0 0 0 0) 3 ?_ ?_ ?_ (h1:=kE _ _ _ _ _ _ _ _ _));rfl;rfl;intro w3 a3 b3 kw3 zw3;clear kw3 zw3))
 have B3:Below w.heap.size w w3:=b1.trans ((b2.trans (b3.mono b2.size)).mono b1.size)
 have rS3:=rS1.b b3
 obtain⟨G1,hG1⟩:=Nm (w2.heap.size)
 rw[← hG1] at a3 ⊢
 replace hG1:=Hy hG1
 replace eS1:=Hy eS1
 replace hn1:=Hy hn1
 clear b1 b2 b3 rS1 r1 qw1
 go_upto_region 3 with (first
  |((with_reducible refine cF (.agg (sB (uI,((none,0):Sl))).toArray) ?_ ?_);exact hb1.out _ _ _ _ _ _)
  |((with_reducible refine gL underlying60 Nt Nu DC DC (sB (uI,((none,0):Sl))) PM (.agg (sB (uI,((none,0):Sl))).toArray) rfl ?_ ?_);rfl;intro w4 hw4;have b4:Below w3.heap.size w3 w4:=(by rw[hw4];exact(Below.refl _ _).alloc LR _);have qw4:Av w4 w3.heap.size 91 (sB (uI,((none,0):Sl))):=(by rw[hw4];exact heap_alloc_new _ _);replace hw4:=Hy hw4)
  |((with_reducible refine gL Tc Fl Fp DC DC ([.int .u8 5]) rfl (.int .u8 5) rfl ?_ ?_);rfl;intro w5 hw5;have b5:Below w4.heap.size w4 w5:=(by rw[hw5];exact(Below.refl _ _).alloc LR _);have qw5:Av w5 w4.heap.size 5 ([.int .u8 5]):=(by rw[hw5];exact heap_alloc_new _ _);replace hw5:=Hy hw5)
  |((with_reducible refine cF (.agg (kB (nP,((some ⟨w4.heap.size,0,none⟩,1):Sl))).toArray) ?_ ?_);exact dC (cs:=kB (nP,((some ⟨w4.heap.size,0,none⟩,1):Sl))) (ops:=[(1,.tmp 23)]) rfl (Iv _))
  |((with_reducible refine gL underlying61 Li Lj DC DC (kB (nP,((some ⟨w4.heap.size,0,none⟩,1):Sl))) rfl (.agg (kB (nP,((some ⟨w4.heap.size,0,none⟩,1):Sl))).toArray) rfl ?_ ?_);rfl;intro w6 hw6;have b6:Below w5.heap.size w5 w6:=(by rw[hw6];exact(Below.refl _ _).alloc LR _);have qw6:Av w6 w5.heap.size 94 (kB (nP,((some ⟨w4.heap.size,0,none⟩,1):Sl))):=(by rw[hw6];exact heap_alloc_new _ _);replace hw6:=Hy hw6)
  |((with_reducible refine cF (.agg ([.int .u32 0,.slice (some ⟨w3.heap.size,0,none⟩) 1 1,.slice (some ⟨w5.heap.size,0,none⟩) 1 1,.int .u32 0]:List Value).toArray) ?_ ?_);exact dC (cs:=[.int .u32 0,.slice (some ⟨w3.heap.size,0,none⟩) 1 1,.slice (some ⟨w5.heap.size,0,none⟩) 1 1,.int .u32 0]) (ops:=[(1,.tmp 22),(2,.tmp 25)]) rfl (Lk _ _))
  |((with_reducible refine SN ([.int .u32 0,.slice (some ⟨w3.heap.size,0,none⟩) 1 1,.slice (some ⟨w5.heap.size,0,none⟩) 1 1,.int .u32 0]) 4 ?_ ?_ ?_);rfl;rfl;intro w7 a7 b7 kw7 zw7;clear kw7 zw7))
 have B4:=B3.trans (b4.mono B3.size)
 have b47:Below w4.heap.size w4 w7:=b5.trans ((b6.trans (b7.mono b6.size)).mono b5.size)
 have b57:Below w5.heap.size w5 w7:=b6.trans (b7.mono b6.size)
 have B7:=B4.trans (b47.mono B4.size)
 have a37:=a3.b (b4.trans (b47.mono b4.size))
 have rS7:=rS3.b (b4.trans (b47.mono b4.size))
 have rI:fB w7 (some ⟨w3.heap.size,0,none⟩) [(uI,((none,0):Sl))]:=by
  refine⟨?_,fun e he=>?_⟩
  ·have:=(qw4.b b47).rd
   simpa [OL] using this
  ·rw[List.mem_singleton.1 he]
   exact⟨Np,Rd.nil _ _,Nat.le_refl _⟩
 have rO:dH w7 (some ⟨w5.heap.size,0,none⟩) [(nP,((some ⟨w4.heap.size,0,none⟩,1):Sl))]:=by
  refine⟨?_,fun e he=>?_⟩
  ·have:=(qw6.b b7).rd
   simpa [PO] using this
  ·rw[List.mem_singleton.1 he]
   exact⟨Ld,(qw5.b b57).rd,Nat.le_refl _⟩
 obtain⟨P3,hP3⟩:=Nm (w3.heap.size)
 obtain⟨P4,hP4⟩:=Nm (w4.heap.size)
 obtain⟨P5,hP5⟩:=Nm (w5.heap.size)
 obtain⟨G3,hG3⟩:=Nm (w6.heap.size)
 rw[← hG3] at a7 ⊢
 rw[← hP3] at a7 rI ⊢
 rw[← hP4] at rO ⊢
 rw[← hP5] at a7 rO ⊢
 replace hP3:=Hy hP3
 replace hP4:=Hy hP4
 replace hP5:=Hy hP5
 replace hG3:=Hy hG3
 clear b4 b5 b6 b7 b47 b57 qw4 qw5 qw6 a3 rS3 B3 B4
 have HNo:=fun w' t r1 r2 rs=>NZ 0 0 OM OM [(uI,((none,0):Sl))] [(nP,((some ⟨P4,0,none⟩,1):Sl))] (some ⟨P3,0,none⟩) (some ⟨P5,0,none⟩) 1 1 1 1 rfl rfl S1 A1 none none 1 c1 0 0 0 0 hn1.out OM [] rfl OM w' t r1 r2 rs (fD.nil _ _)
 rw[show cQ 0 [(uI,((none,0):Sl))] [(nP,((some ⟨P4,0,none⟩,1):Sl))] 0=DR from rfl,eS1.out,Nq,← hI.out] at HNo
 have HId:=fun w' r1 r2 t=>EJ 0 0 OM OM [(uI,((none,0):Sl))] [(nP,((some ⟨P4,0,none⟩,1):Sl))] (some ⟨P3,0,none⟩) (some ⟨P5,0,none⟩) 1 1 1 1 rfl rfl w' r1 r2 t (by rw[show cQ 0 [(uI,((none,0):Sl))] [(nP,((some ⟨P4,0,none⟩,1):Sl))] 0=DR from rfl];decide)
 rw[show cQ 0 [(uI,((none,0):Sl))] [(nP,((some ⟨P4,0,none⟩,1):Sl))] 0=DR from rfl,← hI.out] at HId
 dsimp only at HNo
 have t7:=ht.b B7
 replace HNo:=Hy HNo
 replace HId:=Hy HId
 go_upto_region 4 with (first
  |((with_reducible refine LH a37 3 SZ ?_ ?_);rfl)
  |((with_reducible refine LH a7 4 Tg ?_ ?_);rfl)
  |(go_at_call 12;refine(HNo.out w7 t7 rI rO rS7).mono ?_;rintro e w8 ⟨A2,n2,c2,rfl,hn2,rT8,b8⟩;have hn2':n2=1:=hn2.symm;subst hn2';clear hn2)
  |((with_reducible refine SN (bS A1 A2 none 1 c1 1 c2 0 0) 3 ?_ ?_ ?_ (h1:=kE _ _ _ _ _ _ _ _ _));rfl;rfl;intro w9 a9 b9 kw9 zw9;clear kw9 zw9))
 have b89:=b8.trans (b9.mono b8.size)
 have B9:=B7.trans (b89.mono B7.size)
 have a7':=a7.b b89
 have rI9:=rI.b b89
 have rO9:=rO.b b89
 have rT9:=rT8.b b9
 have t9:=ht.b B9
 obtain⟨G4,hG4⟩:=Nm (w8.heap.size)
 rw[← hG4] at a9 ⊢
 replace hG4:=Hy hG4
 clear b8 b9 b89 rT8 a7 rI rO rS7 a37
 go_upto_region 5 with (first
  |((with_reducible refine LH a7' 4 Tg ?_ ?_);rfl)
  |(go_at_call 27;refine(HId.out w9 rI9 rO9 t9).mono ?_;rintro e w10 ⟨rfl,b10⟩)
  |((with_reducible refine bF 35 ((Below.refl w10.heap.size w10).alloc LR _) (heap_alloc_new _ _) LR (I.map bv) ?_ ?_ 32 ?_ ?_ ?_ ?_ ?_);rfl;rfl;exact k32.out;kernel_rfl;(first|rfl|simp);exact ione.out;intro w11 i11 b11 kw11 zw11;clear kw11 zw11))
 have b11':=b10.trans (b11.mono b10.size)
 have B11:=B9.trans (b11'.mono B9.size)
 have a11:=a9.b b11'
 have rT11:=rT9.b b11'
 obtain⟨G6,hG6⟩:=Nm (w10.heap.size)
 rw[← hG6] at i11 ⊢
 replace hG6:=Hy hG6
 clear b10 b11 b11' a9 rT9 t9 rI9 rO9 a7'
 go_upto_region 6 with (first
  |((with_reducible refine LF i11 32 k32.out SS ?_ ?_);rfl)
  |((with_reducible refine cF (.agg (fC (jJ I)).toArray) ?_ ?_);exact dC (cs:=fC (jJ I)) (ops:=[(2,.tmp 38)]) rfl hhb.out)
  |((with_reducible refine bF 37 ((Below.refl w11.heap.size w11).alloc LR _) (heap_alloc_new _ _) LR (fC (jJ I)) ?_ ?_ 68 ?_ ?_ ?_ ?_ ?_);rfl;rfl;exact h68.out;kernel_rfl;(rw[List.size_toArray];exact hzl.out);exact hone.out;intro w12 h12 b12 kw12 zw12;clear kw12 zw12))
 have B12:=B11.trans (b12.mono B11.size)
 have a12:=a11.b b12
 have i12:=i11.b b12
 have rT12:=rT11.b b12
 obtain⟨G8,hG8⟩:=Nm (w11.heap.size)
 rw[← hG8] at h12 ⊢
 replace hG8:=Hy hG8
 clear b12 a11 i11 rT11
 have HPl:=fun w' t r=>Gs [jJ I] (some ⟨w12.heap.size,0,none⟩) 1 1 rfl OM w' t r
 replace HPl:=Hy HPl
 have t12:=ht.b B12
 go_upto_region 7 with (first
  |((with_reducible refine LF h12 68 h68.out Tb ?_ ?_);rfl)
  |((with_reducible refine gL underlying33 Nl Nn DC DC (fC (jJ I)) h68.out (.agg (fC (jJ I)).toArray) rfl ?_ ?_);rfl;intro w13 hw13;have b13:Below w12.heap.size w12 w13:=(by rw[hw13];exact(Below.refl _ _).alloc LR _);have qw13:Av w13 w12.heap.size 37 (fC (jJ I)):=(by rw[hw13];exact heap_alloc_new _ _);replace hw13:=Hy hw13;have r13:oS w13 (some ⟨w12.heap.size,0,none⟩) [jJ I]:=⟨(by have:=qw13.rd;simpa [jM] using this),fun e he=>by rw[List.mem_singleton.1 he];exact hhok⟩;have t13:=t12.b b13)
  |(go_at_call 7;refine(HPl.out w13 t13 r13).mono ?_;rintro e w14 ⟨v,rfl,hv,b14⟩))
 have b14':=b13.trans (b14.mono b13.size)
 have B14:=B12.trans (b14'.mono B12.size)
 have a14:=a12.b b14'
 have i14:=i12.b b14'
 have h14:=h12.b b14'
 have rT14:=rT12.b b14'
 clear b13 b14 b14' a12 i12 h12 rT12 r13 qw13 t12 t13 HPl
 have HPr:=fun w' D1 D2 t hv rT rh rf=>KE A1 A2 none 1 c1 1 c2 0 0 [I] rfl OM [] rfl OM v (jP 60 [jJ I]) (jJ I) hhok 1 OM [I] (dV.one I32.out) [1] D1 1 1 D2 1 1 rfl rfl OM OM w' t hv rT (dI.nil _ _) rh rf
 rw[Lf,← hB.out] at HPr
 dsimp only at HPr
 have hbb:=Hy (Dy (jJ I) hhok 1)
 replace HPr:=Hy HPr
 go_upto_region 8 with (first
  |((with_reducible refine LH a14 3 SZ ?_ ?_);rfl)
  |((with_reducible refine LF h14 68 h68.out Tb ?_ ?_);rfl)
  |((with_reducible refine LF i14 32 k32.out SS ?_ ?_);rfl)
  |((with_reducible refine gL Tj EL EM DC DC (I.map bv) k32.out (.agg (I.map bv).toArray) rfl ?_ ?_);rfl;intro w15 hw15;have b15:Below w14.heap.size w14 w15:=(by rw[hw15];exact(Below.refl _ _).alloc LR _);have qw15:Av w15 w14.heap.size 35 (I.map bv):=(by rw[hw15];exact heap_alloc_new _ _);replace hw15:=Hy hw15)
  |((with_reducible refine gL Tc Fl Fp DC DC ([.int .u8 1]) rfl (.int .u8 1) rfl ?_ ?_);rfl;intro w16 hw16;have b16:Below w15.heap.size w15 w16:=(by rw[hw16];exact(Below.refl _ _).alloc LR _);have qw16:Av w16 w15.heap.size 5 ([.int .u8 1]):=(by rw[hw16];exact heap_alloc_new _ _);replace hw16:=Hy hw16;have b16':=b15.trans (b16.mono b15.size);have t16:=ht.b (B14.trans (b16'.mono B14.size));have hv16:=hv.b b16';have rT16:=rT14.b b16';have rh16:Rd w16 (some ⟨w14.heap.size,0,none⟩) (eB [I]):=(by rw[Gd];exact(qw15.b b16).rd);have rf16:Rd w16 (some ⟨w15.heap.size,0,none⟩) (([1]:List UInt8).map bv):=qw16.rd)
  |((with_reducible refine cF (.agg (kL (jJ I) 1 (some ⟨w14.heap.size,0,none⟩) 1 1 (some ⟨w15.heap.size,0,none⟩) 1 1).toArray) ?_ ?_);exact dC (cs:=kL (jJ I) 1 (some ⟨w14.heap.size,0,none⟩) 1 1 (some ⟨w15.heap.size,0,none⟩) 1 1) (ops:=[(0,.tmp 46),(1,.const (.int .u32 1)),(2,.tmp 48),(3,.tmp 49)]) rfl (hbb.out _ _ _ _ _ _))
  |(go_at_call 15;refine(HPr.out w16 _ _ t16 hv16 rT16 rh16 rf16).mono ?_;rintro e w17 ⟨A3,n3,c3,rfl,hn3,rN17,b17⟩;have hn3':n3=1:=hn3.symm;subst hn3';clear hn3)
  |((with_reducible refine SN (bS A1 A2 A3 1 c1 1 c2 1 c3) 3 ?_ ?_ ?_ (h1:=kE _ _ _ _ _ _ _ _ _));rfl;rfl;intro w18 a18 b18 kw18 zw18;clear kw18 zw18))
 have b17':=b17.trans (b18.mono b17.size)
 have b18':=b16'.trans (b17'.mono b16'.size)
 have B18:=B14.trans (b18'.mono B14.size)
 have i18:=i14.b b18'
 have hv18:=hv.b b18'
 have rN18:=rN17.b b18
 obtain⟨G10,hG10⟩:=Nm (w17.heap.size)
 rw[← hG10] at a18 ⊢
 replace hG10:=Hy hG10
 have hok60:nH (jP 60 [jJ I]):=Bz 60 [jJ I] (fun e he=>by rw[List.mem_singleton.1 he];exact hhok)
 have HDe:=fun w' hv r=>JS A1 A2 A3 1 c1 1 c2 1 c3 [⟨I,B,0⟩] rfl OM v (jP 60 [jJ I]) hok60 0 OM I I32.out w' hv r
 have hdx:=Lh (I:=I)
 rw[← hB.out] at hdx
 rw[hdx] at HDe
 dsimp only at HDe
 obtain⟨C,hC⟩:∃ C:Cf,C=⟨I,B,0,1⟩:=⟨_,rfl⟩
 rw[← hC] at HDe
 have Cok:C.ok:=by rw[hC];exact⟨I32.out,B32.out⟩
 have C66:=Hy (cH Cok)
 have Cone:=Hy (List.all_eq_true.2 (jA C))
 obtain⟨_,q65⟩:=qP Cok
 have hCd:C.dep=1:=by rw[hC]
 have hCi:C.id=I:=by rw[hC]
 rw[hCd] at q65
 replace hdx:=Hy hdx
 replace HDe:=Hy HDe
 replace hC:=Hy hC
 replace hCd:=Hy hCd
 replace hCi:=Hy hCi
 replace q65:=Hy q65
 clear b15 b16 b16' b17 b17' b18 b18' qw15 qw16 t16 hv16 rT16 rh16 rf16 hv rN17 a14 h14 i14 rT14
 go_upto_region 9 with (first
  |((with_reducible refine LH a18 3 SZ ?_ ?_);rfl)
  |((with_reducible refine LF i18 32 k32.out SS ?_ ?_);rfl)
  |(go_at_call 18;refine(HDe.out w18 hv18 rN18).mono ?_;rintro e w19 ⟨rfl,b19⟩)
  |((with_reducible refine bF 74 ((Below.refl w19.heap.size w19).alloc LR _) (heap_alloc_new _ _) LR (eT C) ?_ ?_ 66 ?_ ?_ ?_ ?_ ?_);rfl;rfl;exact C66.out;kernel_rfl;(rw[List.size_toArray];exact hyl.out);exact Cone.out;intro w20 a20 b20 kw20 zw20;clear kw20 zw20))
 have b20':=b19.trans (b20.mono b19.size)
 have B20:=B18.trans (b20'.mono B18.size)
 have i20:=i18.b b20'
 obtain⟨G13,hG13⟩:=Nm (w19.heap.size)
 rw[← hG13] at a20 ⊢
 replace hG13:=Hy hG13
 have rid:w20.rangeAt G13 0 (I.map bv):=by have:=yF (s:=C) a20.range0;rw[hCi.out] at this;exact this
 have c65:w20.cell? ⟨G13,65,none⟩=some (.int .i64 1):=a20.cell 65 _ q65.out
 have NI:=CX I I I32.out I32.out
 rw[beq_self_eq_true] at NI
 replace NI:=Hy NI
 clear b19 b20 b20' a20 a18
 go_wp2_with (first
  |((with_reducible refine fQ 35 (I.map bv) rid ?_ ?_ _ SS ?_ ?_ ?_);rfl;rfl;rfl;(rw[k32.out];kernel_rfl))
  |((with_reducible refine LG i20 32 SS ?_ ?_ ?_ (hn:=k32.out));rfl;rfl)
  |((with_reducible refine dF (op:=.eql) (ty:=35) ?_ ?_ ?_ (NI.out _ _ w20) ?_);rfl;rfl;rfl))
 go_ret
 exact⟨rfl,B20⟩
end Go.Proofs.YtobjgebojhjhnaaGreatDoor
