import Derived.Test.YtobjgebojhjhnaaGreatDoorQr1
import Derived.StillTail
import Derived.Stop.BytesEq
import Derived.Lib.SliceRun
import Derived.Test.YtobjgebojhjhnaaGreatDoorProg
import Derived.WalkKit
import Derived.WalkSpells
import Derived.WalkLawsBesides
import Derived.Lib.Hide
import Derived.Below
import Derived.Test.YtobjgebojhjhnaaGreatDoorBits
namespace Go.Proofs.YtobjgebojhjhnaaGreatDoor
open Go.RowKit
section
variable {P:Program} {ops:Array Oper} {R:World→World→Prop} {Q:Exit→Act→World→Prop} {w0:World} {L:List (Nat × VP)}
theorem Xc131 {p:Prop} (h:p:=by
 intro c d i
 induction i with
 |zero=>intro _;rfl
 |succ i ih=>
  intro h
  simp only[cf]
  rw[ih fun j hj=>h j OM,h i OM]):p:=h
theorem Xc100 {p:Prop} (h:p:=by
 exact hob j o' OM (by rw[List.length_cons] at hj2;omega) ho'):p:=h
theorem Xm99 {p q:Prop} (k:q) (h:Hid q→p:=by
 intro hk
 rw[hl] at h
 obtain⟨v,h1,h2⟩:=h
 have e1:cf ops L (fun j=>if j=i then v else c0 j) a0 i=cf ops L c0 a0 i:=congr _ _ _ fun j hj=>if_neg OM
 obtain⟨c,hc,hob,hfin⟩:=ih (i+1) _ hr' h2 (fun j=>if j=i then v else c0 j) (by
  simp only[cf,hl,if_pos,hd]
  rw[e1,← ha])
 have hcv:c i=v:=(hc i OM).trans (if_pos rfl)
 refine⟨c,fun j hj=>(hc j OM).trans (if_neg OM),fun j o' hj hj2 ho'=>?_,by rw[List.length_cons,show i+(rest.length+1)=i+1+rest.length by omega];exact hfin⟩
 revert v h1 h2 e1 c hc hob hfin hcv j o' hj hj2 ho';exact hk.out):p:=h (Hy k)
theorem Xm93 {p q:Prop} (k:q) (h:Hid q→p:=by
 intro hk
 intro i a hr h c0 ha
 have ho:ops[i]? =some o:=(hr 0 zS).symm
 have hr':∀ k,k<rest.length→rest[k]? =ops[i+1+k]? :=fun k hk=>by
  have:=hr (k+1) (by simpa using hk)
  rw[List.getElem?_cons_succ] at this
  rw[this]
  congr 1
  omega
 have hd:bG ops i=o.dst:=by simp[bG,ho]
 revert i a hr h c0 ha ho hr' hd;exact hk.out):p:=h (Hy k)
theorem yM (a0:Act):∀ (rest:List Oper) (i:Nat) (a:Act),(∀ k,k<rest.length→rest[k]? =ops[i+k]?)→bK P ops R Q w0 L i rest a→ ∀ c0:Nat→Value,a=cf ops L c0 a0 i→
  ∃ c:Nat→Value,(∀ j,j<i→c j=c0 j)∧(∀ j o,i≤j→j<i+rest.length→ops[j]? =some o→ ∀ w,R w0 w→cV ops (bP ops o) w (fun a'=>dZ P ops R o a' w (match L.lookup j with|none=>fun v _=>v=c j|some phi=>phi)) L (cf ops L c a0 j))∧
   (∀ w,R w0 w→cV ops (fun _=>true) w (fun a'=>Q .normal a' w) L (cf ops L c a0 (i+rest.length))):=by
 have congr:∀ (c d:Nat→Value) (i:Nat),(∀ j,j<i→c j=d j)→cf ops L c a0 i=cf ops L d a0 i:=by
  exact Xc131
 intro rest
 induction rest with
 |nil=>
  intro i a hr h c0 ha
  subst ha
  exact⟨c0,fun _ _=>rfl,fun j o hj hj2 ho=>by simp at hj2;omega,fun w hw=>h w hw⟩
 |cons o rest ih=>
  refine Xm93 ?_;intro i a hr h c0 ha ho hr' hd
  unfold bK at h
  cases hl:L.lookup i with
  |none=>
   refine Xm99 ?_;try clear h;intro v h1 h2 e1 c hc hob hfin hcv j o' hj hj2 ho'
   by_cases hji:j=i
   ·subst hji
    rw[ho] at ho'
    injection ho' with ho'
    subst ho'
    intro w hw
    rw[hl,hcv,congr c c0 j (fun k hk=>(hc k OM).trans (if_neg OM)),← ha]
    exact h1 w hw
   ·exact Xc100
  |some phi=>
   rw[hl] at h
   obtain⟨h1,h2⟩:=h
   obtain⟨c,hc,hob,hfin⟩:=ih (i+1) _ hr' h2 c0 (by simp only[cf,hl];exact ha)
   refine⟨c,fun j hj=>hc j OM,fun j o' hj hj2 ho'=>?_,by rw[List.length_cons,show i+(rest.length+1)=i+1+rest.length by omega];exact hfin⟩
   by_cases hji:j=i
   ·subst hji
    rw[ho] at ho'
    injection ho' with ho'
    subst ho'
    intro w hw
    rw[hl,congr c c0 j (fun k hk=>hc k OM),← ha]
    exact h1 w hw
   ·exact Xc100
theorem qI {D E:Nat→Bool} {V:Nat→Value}:∀ (L:List (Nat × VP)) (a:Act),(∀ p ∈ L,D p.1=E p.1)→gM ops D V L a=gM ops E V L a
 | [],_,_=>rfl
 |(j,phi) :: r,a,h=>by
  unfold gM
  rw[h (j,phi) (List.mem_cons_self ..)]
  split
  ·exact qI r _ fun p hp=>h p (List.mem_cons_of_mem _ hp)
  ·exact qI r _ fun p hp=>h p (List.mem_cons_of_mem _ hp)
def tB (n m:Nat):Array Bool:=Array.replicate n true++Array.replicate m false
def pY (ops:Array Oper) (n:Nat):Bool:=
 decide (n<ops.size) && Region.sinkB .any ops n && Region.chainB .any ops n && Region.seqB .any ops (ops.size - n) n (tB n (ops.size - n))
theorem Ef {n:Nat} {listed:Array Bool} (hsz:listed.size=ops.size) (hn:n<ops.size) (hh:∀ i,i<n→listed.getD i false=true) (ht:∀ t,n≤t→t<ops.size→listed.getD t true=false):listed=tB n (ops.size - n):=by
 refine Array.ext (by simp[tB,hsz];omega) fun i h1 h2=>?_
 by_cases hi:i<n
 ·have:=hh i hi
  rw[Array.getD_eq_getD_getElem?,Array.getElem?_eq_getElem h1] at this
  rw[show listed[i]=true from this]
  simp[tB,hi]
 ·have:=ht i OM OM
  rw[Array.getD_eq_getD_getElem?,Array.getElem?_eq_getElem h1] at this
  rw[show listed[i]=false from this]
  simp[tB,Array.getElem_append,hi]
theorem Xc165 {p:Prop} (h:p:=by
 intro i hi
 cases hl:listed.getD i false with
 |true=>rfl
 |false=>
  have:=(hin i).2 ⟨hi,hl⟩
  rw[List.eq_nil_of_length_eq_zero hU] at this
  cases this):p:=h
theorem Xc94 {p:Prop} (h:p:=by
 intro k
 rw[hnd2.mem_erase_iff,hin k]
 constructor
 ·rintro⟨h1,h2,h3⟩
  exact⟨h2,by rw[getD_set_ne false (Ne.symm h1)];exact h3⟩
 ·rintro⟨h1,h2⟩
  have hki:i≠k:=by
   rintro rfl
   rw[Array.getD_eq_getD_getElem?,Array.getElem?_setIfInBounds_self_of_lt (by rw[hI.lsize];exact hilt)] at h2
   cases h2
  rw[getD_set_ne false hki] at h2
  exact⟨Ne.symm hki,h1,h2⟩):p:=h
theorem Xm72 {p q:Prop} (k:q) (h:Hid q→p:=by
 intro hk
 have noReady:∀ (listed:Array Bool),listed.size=l.toArray.size→Region.ready .any l.toArray listed= []→ ∀ i,i<l.toArray.size→listed.getD i false=true:=by
  intro listed hsz hr i
  induction i using Nat.strongRecOn with
  |ind i ih=>
   intro hi
   cases hl:listed.getD i false with
   |true=>rfl
   |false=>
    have:i ∈ Region.ready .any l.toArray listed:=by
     rw[mem_ready]
     refine⟨?_,l.toArray[i],Array.getElem?_eq_getElem hi,fun e he hb=>?_⟩
     ·rw[Array.getD_eq_getD_getElem?] at hl ⊢
      rw[Array.getElem?_eq_getElem OM] at hl ⊢
      exact hl
     ·have:=(hB1 i _ (Array.getElem?_eq_getElem hi)).2.1 e he hb
      exact ih e.on this OM
    rw[hr] at this
    cases this
 intro fuel
 revert noReady fuel;exact hk.out):p:=h (Hy k)
theorem Xm40 {p q:Prop} (k:q) (h:Hid q→p:=by
 intro hk
 rw[show fuel+1+(l.toArray.size - n)=(fuel+(l.toArray.size - n))+1 by omega]
 have hne:∃ i,i<n∧listed.getD i true=false:=by
  cases U with
  |nil=>simp at hU
  |cons u U=>
   have:=(hin u).1 (List.mem_cons_self ..)
   refine⟨u,this.1,?_⟩
   have h2:=this.2
   rw[Array.getD_eq_getD_getElem?,Array.getElem?_eq_getElem (by rw[hI.lsize];omega)] at h2 ⊢
   exact h2
 obtain⟨u,hu1,hu2⟩:=hne
 have inv:HeadInv .any l.toArray n listed:=⟨hI.lsize,fun j oj hj hlj e he hb=>hI.shut j oj hj hlj e he hb,htl⟩
 refine⟨fun hr=>?_,fun i hi=>?_⟩
 ·have:=noReady listed hI.lsize hr u OM
  rw[eN hu2] at this
  cases this
 have hin':i<n:=by
  rcases Nat.lt_or_ge i n with h|h
  ·exact h
  ·exact absurd hi (tail_waits hs hc hn inv _ u rfl hu1 hu2 i h)
 rw[mem_ready] at hi
 obtain⟨h0,o,ho,hall⟩:=hi
 have hiu:=eN h0
 have hilt:=(Array.getElem?_eq_some_iff.1 ho).1
 obtain⟨hsel,hearly,_,hlooks⟩:=hB1 i o ho
 have hdst:bG l.toArray i=o.dst:=by simp only[bG,ho,Option.bind_some]
 rename_i zq0
 revert u hu1 hu2 inv i hin' h0 o ho hall hiu hilt hsel hearly zq0 hlooks hdst;exact hk.out):p:=h (Hy k)
theorem Xc31 {p:Prop} (h:p:=by
 have e:gM l.toArray (fun _=>true) (fun j=>a.tmps.getD ((bG l.toArray j).getD 0) undef) L (cf l.toArray L c a0 n)=a:=by
  have hd:(gM l.toArray (fun _=>true) (fun j=>a.tmps.getD ((bG l.toArray j).getD 0) undef) L (cf l.toArray L c a0 n)).defers=a.defers:=by
   rw[jX,uK,hI.defers]
  have ht:(gM l.toArray (fun _=>true) (fun j=>a.tmps.getD ((bG l.toArray j).getD 0) undef) L (cf l.toArray L c a0 n)).tmps=a.tmps:=by
   rw[qI (E:=fun j=>decide (j<n)) L _ fun p hp=>by simp[hkn p hp]]
   refine Array.ext_getElem? fun t=>nY hnd hrange huniq hI (fun j=>decide (j<n)) n t fun j hj=>?_
   by_cases hjn:j<n
   ·exact .inl ⟨hall j hjn,hjn,by simp[hjn]⟩
   ·exact .inr ⟨eN (htl j OM (hlt j t hj)),by omega,by simp[hjn]⟩
  cases hx:gM l.toArray (fun _=>true) (fun j=>a.tmps.getD ((bG l.toArray j).getD 0) undef) L (cf l.toArray L c a0 n)
  rw[hx] at hd ht
  cases a
  simp_all
 rw[e] at h1
 have hhead:=Ef hI.lsize hn hall htl
 have:=wpAny_of_seq (md:=.any) (Q':=Q) (l.drop n) n listed a w (fun j=>by simp[List.getElem?_drop]) (by
  rw[hhead,show (l.drop n).length=l.toArray.size - n by simp];exact hq) h1
 rwa [show (l.drop n).length=l.toArray.size - n by simp] at this):p:=h
theorem Xc27 {p:Prop} (h:p:=by
 refine sJ hsel (fun t ht=>?_) (iN (fun j=>a.tmps.getD ((bG l.toArray j).getD 0) undef) L _ (hob i o hin' ho w hI.ext) (fun p hp hD=>nZ hnd hrange hks hI p hp ?_))
 ·refine nY hnd hrange huniq hI (bP l.toArray o) i t fun j hj=>?_
  have hjlt:=hlt j t hj
  have hoj:=Array.getElem?_eq_getElem hjlt
  rcases hlooks t ht j _ hoj (by simpa only[bG,hoj,Option.bind_some] using hj) with ⟨h1,h2⟩|h1|⟨h1,h2⟩
  ·obtain⟨e,he,hb,hon⟩:=fR h2
   have:=hall e he hb
   rw[hon] at this
   exact .inl ⟨this,h1,by unfold bP;rw[h2,hj];simpa using ht⟩
  ·subst h1
   refine .inr ⟨hiu,Nat.le_refl _,?_⟩
   unfold bP
   cases hD:kK o j with
   |false=>rfl
   |true=>
    obtain⟨e,he,hb,hon⟩:=fR hD
    have:=hearly e he hb
    omega
  ·refine .inr ⟨?_,by omega,?_⟩
   ·cases hl:listed.getD j false with
    |false=>rfl
    |true=>
     obtain⟨e,he,hb,hon⟩:=fR h2
     have:=hI.shut j _ hoj hl e he hb
     rw[hon,hiu] at this
     cases this
   ·unfold bP
    cases hD:kK o j with
    |false=>rfl
    |true=>
     obtain⟨e,he,hb,hon⟩:=fR hD
     have:=hearly e he hb
     omega
 ·have hD':kK o p.1=true:=by
   unfold bP at hD
   simp only[Bool.and_eq_true] at hD
   exact hD.1
  obtain⟨e,he,hb,hon⟩:=fR hD'
  have:=hall e he hb
  rwa [hon] at this):p:=h
theorem IC {c:Nat→Value} {a0:Act} {n g:Nat} {l:List Oper} (hl:l.toArray=ops) (hg:g=ops.size - n) (hT:pY ops n=true) (hB:sI ops (L.map (·.1))=true) (hkn:∀ p ∈ L,p.1<n) (hrange:∀ j t,bG ops j=some t→t<a0.tmps.size)
  (htr:∀ a b d,R a b→R b d→R a d) (hmono:∀ p ∈ L,∀ v w w',R w w'→p.2 v w→p.2 v w')
  (hob:∀ j o,j<n→ops[j]? =some o→ ∀ w,R w0 w→cV ops (bP ops o) w (fun a'=>dZ P ops R o a' w (match L.lookup j with|none=>fun v _=>v=c j|some phi=>phi)) L (cf ops L c a0 j))
  (hsk:∀ w,R w w)
  (hfin:∀ w,R w0 w→cV ops (fun _=>true) w (fun a'=>wpList P ops Q (l.drop n) a' w) L (cf ops L c a0 n)):
  ∀ (fuel:Nat) (listed:Array Bool) (a:Act) (w:World) (U:List Nat),U.length=fuel→(∀ i,i ∈ U↔i<n∧listed.getD i false=false)→(∀ t,n≤t→t<ops.size→listed.getD t true=false)→nQ ops R w0 L c a0 listed a w→U.Nodup→wpAny P .any ops Q (fuel+g) listed a w:=by
 subst hl hg
 simp only[pY,Bool.and_eq_true,decide_eq_true_eq] at hT
 obtain⟨⟨⟨hn,hs⟩,hc⟩,hq⟩:=hT
 obtain⟨hB1,hnd,hks⟩:=rC hB
 have huniq:∀ j t,bG l.toArray j=some t→ ∀ k,k≠j→bG l.toArray k≠some t:=by
  intro j t hj k hk
  cases ho:l.toArray[j]? with
  |none=>simp only[bG,ho] at hj;cases hj
  |some o=>exact(hB1 j o ho).2.2.1 k t (by simpa only[bG,ho,Option.bind_some] using hj) hk
 have hlt:∀ j t,bG l.toArray j=some t→j<l.toArray.size:=by
  intro j t hj
  rcases Nat.lt_or_ge j l.toArray.size with h|h
  ·exact h
  ·simp only[bG,Array.getElem?_eq_none h] at hj;cases hj
 have theTail:∀ (listed:Array Bool) (a:Act) (w:World),nQ l.toArray R w0 L c a0 listed a w→(∀ t,n≤t→t<l.toArray.size→listed.getD t true=false)→(∀ i,i<n→listed.getD i false=true)→wpAny P .any l.toArray Q (l.toArray.size - n) listed a w:=by
  intro listed a w hI htl hall
  have h1:=iN (fun j=>a.tmps.getD ((bG l.toArray j).getD 0) undef) L _ (hfin w hI.ext) (fun p hp _=>nZ hnd hrange hks hI p hp (hall _ (hkn p hp)))
  exact Xc31
 refine Xm72 ?_;intro noReady fuel
 induction fuel with
 |zero=>
  intro listed a w U hU hin htl hI _
  have hall:∀ i,i<n→listed.getD i false=true:=by
   exact Xc165
  rw[Nat.zero_add]
  exact theTail listed a w hI htl hall
 |succ fuel ih=>
  intro listed a w U hU hin htl hI hnd2
  refine Xm40 ?_;intro u hu1 hu2 inv i hin' h0 o ho hall hiu hilt hsel hearly _ hlooks hdst
  have hop:dZ P l.toArray R o a w (match L.lookup i with|none=>fun v _=>v=c i|some phi=>phi):=by
   exact Xc27
  have next:∀ v w',R w w'→(match L.lookup i with|none=>fun v _=>v=c i|some phi=>phi:VP) v w'→wpAny P .any l.toArray Q (fuel+(l.toArray.size - n)) (listed.setIfInBounds i true) (a.put o.dst v) w':=by
   intro v w' hR hok
   have hset:∀ j,(listed.setIfInBounds i true).getD j false=true→listed.getD j false=true∨j=i:=by
    exact Xc118
   refine ih _ _ _ (U.erase i) ?_ ?_ (fun t ht ht'=>(getD_set_ne true (show i≠t by omega)).trans (htl t ht ht')) ⟨by simp[hI.lsize],by rw[gG,hI.size],by rw[kO,hI.defers],htr _ _ _ hI.ext hR,?_,?_,?_,?_⟩ ?_
   ·have:=List.length_erase_of_mem ((hin i).2 ⟨hin',hiu⟩)
    omega
   ·exact Xc94
   ·exact Xc70
   ·intro j t hj ht hjl hlk
    by_cases hji:j=i
    ·subst hji
     rw[hdst] at hj
     rw[hlk] at hok
     rw[hj,eE _ _ _ (by rw[hI.size];exact ht)]
     exact congrArg some hok
    ·exact Xc92
   ·intro j t phi hj ht hjl hlk
    by_cases hji:j=i
    ·subst hji
     rw[hdst] at hj
     rw[hlk] at hok
     rw[hj,eE _ _ _ (by rw[hI.size];exact ht)]
     exact⟨v,rfl,hok⟩
    ·exact Xc83
   ·exact Xc44
   ·exact hnd2.erase i
  unfold dZ at hop
  unfold wpOp
  rw[ho]
  dsimp only
  by_cases hw:Region.wanted o (yielded l.toArray a.tmps)=true
  ·exact Xc52
  ·rw[if_neg hw] at hop ⊢
   exact next undef w (hsk w) hop
theorem sK {a:Act} {w:World} {l:List Oper} (n:Nat) (L:List (Nat × VP)) (R:World→World→Prop) (hT:pY l.toArray n=true) (hB:sI l.toArray (L.map (·.1))=true)
  (hkn:L.all (fun p=>decide (p.1<n))=true)
  (hrange:l.all (fun o=>match o.dst with|some d=>decide (d<a.tmps.size)|none=>true)=true)
  (hrefl:∀ w,R w w) (htr:∀ a b d,R a b→R b d→R a d) (hmono:∀ p ∈ L,∀ v w w',R w w'→p.2 v w→p.2 v w')
  (h:bK P l.toArray R (fun _ a' w'=>wpList P l.toArray Q (l.drop n) a' w') w.drew L 0 (l.take n) a):wpAny P .any l.toArray Q l.toArray.size (Array.replicate l.toArray.size false) a w.drew:=by
 have hT':=hT
 simp only[pY,Bool.and_eq_true,decide_eq_true_eq] at hT'
 have hn:n<l.toArray.size:=hT'.1.1.1
 have htk:(l.take n).length=n:=by simp;simp at hn;omega
 obtain⟨c,_,hob,hfin⟩:=yM a (l.take n) 0 a (fun k hk=>by rw[htk] at hk;simp[hk]) h (fun _=>undef) rfl
 rw[Nat.zero_add,htk] at hfin
 have hnone:∀ j,¬ (Array.replicate l.toArray.size false).getD j false=true:=by
  exact Xc135
 have:=IC (g:=l.toArray.size - n) (Q:=Q) (c:=c) (a0:=a) rfl rfl hT hB (fun p hp=>by have:=List.all_eq_true.1 hkn p hp;simpa using this) (fun j t hj=>?_) htr hmono (fun j o hj ho=>hob j o (Nat.zero_le _) (by rw[htk];omega) ho) hrefl hfin n _ a _ (List.range n) zS (fun i=>?_) (fun t _ h2=>?_) ⟨by simp,rfl,rfl,hrefl _,fun i o _ hl=>absurd hl (hnone i),fun j t _ _ hl=>absurd hl (hnone j),fun j t phi _ _ hl=>absurd hl (hnone j),fun t _=>rfl⟩ List.nodup_range
 ·rw[show n+(l.toArray.size - n)=l.toArray.size by omega] at this
  exact this
 ·exact Xc62
 ·rw[List.mem_range]
  exact⟨fun h=>⟨h,by have:=hnone i;simpa using this⟩,fun h=>h.1⟩
 ·rw[Array.getD_eq_getD_getElem?,Array.getElem?_replicate,if_pos h2]
  rfl
theorem bL {id:Nat} {a:Act} {w:World} {l:List Oper} (n:Nat) (L:List (Nat × VP)) (R:World→World→Prop) (hm:P.follows .mixedOrders=true) (hT:pY l.toArray n=true) (hB:sI l.toArray (L.map (·.1))=true)
  (hkn:L.all (fun p=>decide (p.1<n))=true)
  (hrange:l.all (fun o=>match o.dst with|some d=>decide (d<a.tmps.size)|none=>true)=true)
  (hrefl:∀ w,R w w) (htr:∀ a b d,R a b→R b d→R a d) (hmono:∀ p ∈ L,∀ v w w',R w w'→p.2 v w→p.2 v w')
  (h:bK P l.toArray R (fun _ a' w'=>wpList P l.toArray Q (l.drop n) a' w') w.drew L 0 (l.take n) a):(Code.region id l.toArray true).wp P Q a w:=
 wp_region_any hm (sK n L R hT hB hkn hrange hrefl htr hmono h)
end
end Go.Proofs.YtobjgebojhjhnaaGreatDoor
namespace Go.Proofs.YtobjgebojhjhnaaGreatDoor
open Go.RowKit
theorem rZ:∀ (xs ys:List Int),xs.length=ys.length→(List.range xs.length).all (fun i=>xs.getD i 0==ys.getD i 0)=(xs==ys)
 | [],[],_=>rfl
 |x :: xs,y :: ys,h=>by
  rw[List.length_cons,List.range_succ_eq_map,List.all_cons,List.all_map]
  have ih:=rZ xs ys (by simpa using h)
  rw[List.cons_beq_cons,← ih]
  rfl
 | [],_ :: _,h=>by simp at h
 |_ :: _,[],h=>by simp at h
theorem oI {P:Program} (w:World) (d:Nat) (t e:TypeId) (n:Nat) (k:IntKind) (ht:P.underlying t=some (.array n e)) (he:P.underlying e=some (.int k)) (hsz:∀ w,(sizeOf e).run P w= .ok 1 w)
  (xs ys:List Int) (hx:xs.length=n) (hy:ys.length=n):
  (Op.equalIn (d+2) t (.agg (xs.map (Value.int k)).toArray) (.agg (ys.map (Value.int k)).toArray)).run P w= .ok (xs==ys) w:=by
 rw[← rZ xs ys (hx.trans hy.symm),hx,List.range_eq_range',Op.equalIn]
 simp only[Sem.run_bind,run_underlying ht,Result.andThen_ok,hsz,Std.Legacy.Range.forIn_eq_forIn_range',Std.Legacy.Range.size,Nat.sub_zero,Nat.add_sub_cancel,Nat.div_one]
 have hl:∀ i ∈ List.range' 0 n 1,i<n:=fun i hi=>by simpa using (List.mem_range'_1.1 hi).2
 generalize List.range' 0 n 1=l at hl ⊢
 induction l with
 |nil=>simp
 |cons i l ih=>
  have hi:i<n:=hl i zS
  have px:(part e (xs.map (Value.int k)).toArray (i*1)).run P w= .ok (Value.int k (xs.getD i 0)) w:=by
   simp[part,isAgg,run_underlying he,List.getD,List.getElem?_eq_getElem (show i<xs.length by omega)]
  have py:(part e (ys.map (Value.int k)).toArray (i*1)).run P w= .ok (Value.int k (ys.getD i 0)) w:=by
   simp[part,isAgg,run_underlying he,List.getD,List.getElem?_eq_getElem (show i<ys.length by omega)]
  have pe:(Op.equalIn (d+1) e (Value.int k (xs.getD i 0)) (Value.int k (ys.getD i 0))).run P w= .ok (xs.getD i 0==ys.getD i 0) w:=by
   rw[run_equalIn_int w d e k k _ _ he]
  simp only[List.forIn_cons,Sem.run_bind,px,py,pe,Result.andThen_ok,List.all_cons]
  cases hb:(xs.getD i 0==ys.getD i 0)
  ·simp
  ·simp only[Bool.not_true,Bool.false_eq_true,if_false,Sem.run_pure,Result.andThen_ok,Bool.true_and]
   exact ih fun j hj=>hl j (by simp[hj])
open Go.RowKit Tryz
def yQ (A:Option Addr) (c lo s:Nat):Option Addr:=if c=lo then A else A.map (·.add (lo*s))
theorem Rd.sub {w:World} {A:Option Addr} {xs:List Value} (h:Rd w A xs) (c lo s:Nat) (hc:xs.length≤c*s):Rd w (yQ A c lo s) (xs.drop (lo*s)):=by
 unfold yQ
 split
 ·rename_i e
  subst e
  rw[List.drop_of_length_le hc]
  exact Rd.nil w A
 ·rcases h with h|⟨b,off,rfl,hcell⟩
  ·subst h
   rw[List.drop_nil]
   exact Rd.nil w _
  ·have:(Option.map (fun x:Addr=>x.add (lo*s)) (some ⟨b,off,none⟩))=some ⟨b,off+lo*s,none⟩:=by
    rw[Option.map_some,iM]
   rw[this]
   exact Rd.drop (.inr ⟨b,off,rfl,hcell⟩) _
section
variable {P:Program} (w:World) (t e:TypeId) (A:Option Addr) (n c s:Nat)
theorem uN (ht:P.underlying t=some (.slice e)) (hs:(P.info? e).map (·.size)=some s) (kl kh:IntKind) (l h:Int) (h0:0≤l) (h1:l≤h) (h2:h≤c):
  (Instr.slice t (.slice A n c) (some (.int kl l)) (some (.int kh h)) none).run P w= .ok (.slice (yQ A c l.toNat s) (h.toNat - l.toNat) (c - l.toNat)) w:=by
 obtain⟨i,hi,rfl⟩:=Option.map_eq_some_iff.1 hs
 have hel:P.elem t=e:=by simp[Program.elem,ht]
 rw[run_slice_lh (P:=P) w t A n c (by rw[hel];exact ht) kl kh l h h0 h1 h2,hel]
 simp[sizeOf,typeInfo,hi,sliced,yQ]
theorem vK (ht:P.underlying t=some (.slice e)) (hs:(P.info? e).map (·.size)=some s) (kl:IntKind) (l:Int) (h0:0≤l) (h1:l≤n):
  (Instr.slice t (.slice A n c) (some (.int kl l)) none none).run P w= .ok (.slice (yQ A c l.toNat s) (n - l.toNat) (c - l.toNat)) w:=by
 obtain⟨i,hi,rfl⟩:=Option.map_eq_some_iff.1 hs
 have hel:P.elem t=e:=by simp[Program.elem,ht]
 rw[run_slice_l (P:=P) w t A n c (by rw[hel];exact ht) kl l h0 h1,hel]
 simp[sizeOf,typeInfo,hi,sliced,yQ]
theorem vL (ht:P.underlying t=some (.slice e)) (hs:(P.info? e).map (·.size)=some s) (kh:IntKind) (h:Int) (h0:0≤h) (h2:h≤c):
  (Instr.slice t (.slice A n c) none (some (.int kh h)) none).run P w= .ok (.slice A h.toNat c) w:=by
 obtain⟨i,hi,rfl⟩:=Option.map_eq_some_iff.1 hs
 have hel:P.elem t=e:=by simp[Program.elem,ht]
 rw[run_slice_h (P:=P) w t A n c (by rw[hel];exact ht) kh h h0 h2,hel]
 have hA:Option.map (fun x:Addr=>x.add 0) A=A:=by cases A <;> simp[Addr.add]
 simp[sizeOf,typeInfo,hi,sliced,hA]
end
theorem vV:(prog.info? 5).map (·.size)=some 1:=by kernel_rfl
section
variable (w:World) (A:Option Addr) (n c:Nat)
theorem eO (kl kh:IntKind) (l h:Int) (h0:0≤l) (h1:l≤h) (h2:h≤c):
  (Instr.slice 27 (.slice A n c) (some (.int kl l)) (some (.int kh h)) none).run prog w= .ok (.slice (yQ A c l.toNat 1) (h.toNat - l.toNat) (c - l.toNat)) w:=
 uN w _ _ A n c 1 Tc vV kl kh l h h0 h1 h2
theorem gO (kl:IntKind) (l:Int) (h0:0≤l) (h1:l≤n):
  (Instr.slice 27 (.slice A n c) (some (.int kl l)) none none).run prog w= .ok (.slice (yQ A c l.toNat 1) (n - l.toNat) (c - l.toNat)) w:=
 vK w _ _ A n c 1 Tc vV kl l h0 h1
theorem gP (kh:IntKind) (h:Int) (h0:0≤h) (h2:h≤c):
  (Instr.slice 27 (.slice A n c) none (some (.int kh h)) none).run prog w= .ok (.slice A h.toNat c) w:=
 vL w _ _ A n c 1 Tc vV kh h h0 h2
theorem iV (n' c':Nat):(binOp .eql 27 (.slice A n c) (.slice none n' c')).run prog w= .ok (.bool A.isNone) w:=
 Lib.run_eql_slice_nil w _ _ A n c n' c' Tc
end
theorem Cs (bs:List UInt8):strOfNums (bs.map fun b=>(b.toNat:Int))=⟨bs.toArray⟩:=by
 unfold strOfNums
 congr 1
 simp only[List.map_map]
 congr 1
 conv=>rhs;rw[← List.map_id bs]
 refine List.map_congr_left fun b _=>?_
 simp
theorem wJ {w:World} {A:Option Addr} {bs:List UInt8} {n:Nat} (hr:Rd w A (bs.map bv)) (hn:bs.length=n) (c:Nat):
  (convert 27 9 (.slice A n c)).run prog w= .ok (.string ⟨bs.toArray⟩) w:=by
 rw[run_convert_bytes_string w _ _ _ A n c Tc Tl underlying9]
 cases A with
 |none=>
  have hb:bs= []:=by
   rcases hr with h|⟨_,_,h,_⟩
   ·simpa using h
   ·cases h
  subst hb
  simp[Conv.bytesToString]
  rfl
 |some a=>
  have hl:(loadCells a n).run prog w= .ok ((bs.map fun b=>(b.toNat:Int)).map (Value.int .u8)).toArray w:=by
   have h:=run_loadCells_list (P:=prog) w a (bs.map bv) (fun j u hu=>by
    rcases hr with h|⟨b,off,hA,hc⟩
    ·rw[h] at hu;simp at hu
    ·cases hA
     rw[iM]
     exact hc j u hu)
   rw[List.length_map,hn] at h
   rw[h,List.map_map]
   rfl
  rw[run_bytesToString w a n c _ hl,foldl_push_bytes]
  have e:=Cs bs
  unfold strOfNums at e
  rw[ByteArray.mk.injEq] at e
  rw[e]
  simp[ByteArray.empty,ByteArray.emptyWithCapacity]
  rfl
end Go.Proofs.YtobjgebojhjhnaaGreatDoor
namespace Go.Proofs.YtobjgebojhjhnaaGreatDoor
open Go.RowKit Tryz
theorem mQ (w:World):(sizeOf 5).run prog w= .ok 1 w:=by
 obtain⟨i0,hi,hz⟩:=Option.map_eq_some_iff.1 vV
 simp[sizeOf,typeInfo,hi,hz]
theorem Ol (x y:List UInt8) (hx:x.length=32) (hy:y.length=32) (w:World):(binOp .eql 35 (.agg (x.map bv).toArray) (.agg (y.map bv).toArray)).run prog w= .ok (.bool (x==y)) w:=
 run_eql_bytes w 35 5 32 SS Tl mQ x y hx hy
theorem Rh (x y:List UInt8) (hx:x.length=32) (hy:y.length=32) (w:World):(binOp .neq 35 (.agg (x.map bv).toArray) (.agg (y.map bv).toArray)).run prog w= .ok (.bool (!(x==y))) w:=by
 have h:=run_equalIn_bytes w 9998 35 5 32 SS Tl mQ x y hx hy
 rw[run_neq_struct]
 exact(congrArg (fun r:Result Bool=>r.andThen fun b w'=>.ok (Value.bool (!b)) w') h)
abbrev fH:=BitVec 32
@[irreducible] def wn (x:fH):Int:=x.toNat
theorem jZ (x:fH):wn x=(x.toNat:Int):=by unfold wn;rfl
abbrev wc (x:fH):Value:=.int .u32 (wn x)
theorem mW (n:Nat) (h:n<4294967296):wn (BitVec.ofNat 32 n)=(n:Int):=by
 rw[jZ,BitVec.toNat_ofNat,Nat.mod_eq_of_lt h]
theorem wN (x:fH):BitVec.ofInt IntKind.u32.bits (wn x)=x:=by
 rw[jZ];exact BitVec.eq_of_toNat_eq (by simp[IntKind.bits])
theorem sO (x:fH):IntKind.u32.wrap (x.toNat:Int)=wn x:=by
 rw[jZ,IntKind.wrap_u32];have:=x.isLt;omega
theorem jU (x y:fH):bits .xor .u32 (wn x) (wn y)=wn (x ^^^ y):=by
 simp only[bits,wN];exact sO _
theorem lE (x y:fH):bits .and .u32 (wn x) (wn y)=wn (x &&& y):=by
 simp only[bits,wN];exact sO _
theorem gJ (x y:fH):bits .or .u32 (wn x) (wn y)=wn (x |||y):=by
 simp only[bits,wN];exact sO _
theorem lF (x y:fH):IntKind.u32.wrap (wn x+wn y)=wn (x+y):=by
 rw[jZ,jZ,jZ,IntKind.wrap_u32,BitVec.toNat_add];omega
theorem Bp (x:fH) (k:Nat):wn x / 2 ^ k=wn (x >>> k):=by
 rw[jZ,jZ,BitVec.toNat_ushiftRight,Nat.shiftRight_eq_div_pow];simp
theorem Em (x:fH) (k:Nat):IntKind.u32.wrap (wn x*2 ^ k)=wn (x<<<k):=by
 rw[jZ,jZ,IntKind.wrap_u32,BitVec.toNat_shiftLeft,Nat.shiftLeft_eq]
 rw[show (x.toNat:Int)*2 ^ k=((x.toNat*2 ^ k:Nat):Int) from by simp]
 omega
def sP (x:fH) (k:Nat):fH:=x<<<(32 - k) |||x >>> k
theorem Qf (n:Int) (h: -32<n) (h2:n<0):bits .and .u64 (IntKind.u64.wrap n) 31=n+32:=by
 rw[show (31:Int)=2 ^ 5 - 1 by decide,bits_mask .u64 64 (by decide) (fun n h0 h1=>by rw[IntKind.wrap_u64];omega) 5 (by decide) _ (by rw[IntKind.wrap_u64];omega) (by rw[IntKind.wrap_u64];omega)]
 rw[IntKind.wrap_u64];omega
attribute [local go_sem high] gJ Em Bp
theorem Bq (x:fH) (k:Nat) (n:Int) (hn:n= -(k:Int)) (hk:0<k) (hk2:k<32) (w:World):
  Calls prog 148 #[.int .u32 (wn x),.int .i64 n] w fun e w'=>e= .returned (.int .u32 (wn (sP x k)))∧w'=w:=by
 have e1:=Qf n (by omega) (by omega)
 have e2:0≤n+32:=by omega
 have e3:0≤32 - (n+32):=by omega
 have e6:IntKind.u64.wrap (32 - (n+32))=k:=by rw[IntKind.wrap_u64];omega
 have e4:(n+32).toNat=32 - k:=by omega
 have e5:min ((k:Int)).toNat IntKind.u32.bits=k:=by simp only[IntKind.bits];omega
 have e7:(0:Int)≤k:=by omega
 clear hn
 go_enter func148,ntmps148
 go_wp2
 go_ret
 exact⟨rfl,rfl⟩
theorem nT (x:fH) (k:Nat) (m:Int) (hm:m=k) (hk:0<k) (hk2:k<32) (w:World):
  Calls prog 143 #[.int .u32 (wn x),.int .i64 m] w fun e w'=>e= .returned (.int .u32 (wn (sP x k)))∧w'=w:=by
 have e1:IntKind.i64.wrap (-m)= -m:=by rw[IntKind.wrap_i64];omega
 have h:=Bq x k (-m) (by omega) hk hk2
 clear hm
 go_enter func143,ntmps143
 go_wp2_with fail
 refine(h _).mono ?_
 rintro e1 w1 ⟨rfl,rfl⟩
 go_wp2
 go_ret
 exact⟨rfl,rfl⟩
end Go.Proofs.YtobjgebojhjhnaaGreatDoor
namespace Go.Proofs.YtobjgebojhjhnaaGreatDoor
open Go.RowKit Tryz
def wO:List Nat:=[
 0x428a2f98,0x71374491,0xb5c0fbcf,0xe9b5dba5,0x3956c25b,0x59f111f1,0x923f82a4,0xab1c5ed5,
 0xd807aa98,0x12835b01,0x243185be,0x550c7dc3,0x72be5d74,0x80deb1fe,0x9bdc06a7,0xc19bf174,
 0xe49b69c1,0xefbe4786,0x0fc19dc6,0x240ca1cc,0x2de92c6f,0x4a7484aa,0x5cb0a9dc,0x76f988da,
 0x983e5152,0xa831c66d,0xb00327c8,0xbf597fc7,0xc6e00bf3,0xd5a79147,0x06ca6351,0x14292967,
 0x27b70a85,0x2e1b2138,0x4d2c6dfc,0x53380d13,0x650a7354,0x766a0abb,0x81c2c92e,0x92722c85,
 0xa2bfe8a1,0xa81a664b,0xc24b8b70,0xc76c51a3,0xd192e819,0xd6990624,0xf40e3585,0x106aa070,
 0x19a4c116,0x1e376c08,0x2748774c,0x34b0bcb5,0x391c0cb3,0x4ed8aa4a,0x5b9cca4f,0x682e6ff3,
 0x748f82ee,0x78a5636f,0x84c87814,0x8cc70208,0x90befffa,0xa4506ceb,0xbef9a3f7,0xc67178f2]
def GN:List Nat:=[0x6a09e667,0xbb67ae85,0x3c6ef372,0xa54ff53a,0x510e527f,0x9b05688c,0x1f83d9ab,0x5be0cd19]
def IA (i:Nat):fH:=BitVec.ofNat 32 (wO.getD i 0)
def Lx (i:Nat):fH:=BitVec.ofNat 32 (GN.getD i 0)
structure fW (w:World):Prop where
 k:∀ i,i<64→w.cell? ⟨1,i,none⟩=some (wc (IA i))
 i:∀ i,i<8→w.cell? ⟨0,i,none⟩=some (wc (Lx i))
theorem fW.b {w w' : World} (h : fW w) (hb : Below w.heap.size w w') : fW w' :=
  ⟨fun i hi => (hb.cell (p := ⟨1, i, none⟩) (World.block_lt_of_cell? w _ (h.k i hi))).trans (h.k i hi),
   fun i hi => (hb.cell (p := ⟨0, i, none⟩) (World.block_lt_of_cell? w _ (h.i i hi))).trans (h.i i hi)⟩
theorem Jg (i:Int) (h0:0≤i) (h1:i<64) (w:World) (ht:fW w):
  Calls prog 144 #[.int .i64 i] w fun e w'=>e= .returned (wc (IA i.toNat))∧w'=w:=by
 have hc:w.cell? ⟨1,i.toNat,none⟩=some (wc (IA i.toNat)):=ht.k _ OM
 have t1:decide (i<0)=false:=by simp;omega
 have t2:decide (63<i)=false:=by simp;omega
 go_enter func144,ntmps144
 go_wp2
 go_ret
 exact⟨rfl,rfl⟩
theorem Mg (i:Int) (h0:0≤i) (h1:i<8) (w:World) (ht:fW w):
  Calls prog 135 #[.int .i64 i] w fun e w'=>e= .returned (wc (Lx i.toNat))∧w'=w:=by
 have hc:w.cell? ⟨0,i.toNat,none⟩=some (wc (Lx i.toNat)):=ht.i _ OM
 have t1:decide (i<0)=false:=by simp;omega
 have t2:decide (7<i)=false:=by simp;omega
 go_enter func135,ntmps135
 go_wp2
 go_ret
 exact⟨rfl,rfl⟩
section
variable {ops:Array Oper} {Q:Exit→Act→World→Prop} {w0:World} {L:List (Nat × VP)} {i:Nat} {o:Oper} {rest:List Oper} {l l':List Value} {d:List Deferred}
theorem GQ {ρ:Operand→Value} (x:Operand) (ho:o.op= .convert 27 9 x) {A:Option Addr} {n c:Nat} (hx:ρ x= .slice A n c) {w:World} {bs:List UInt8} (hr:Rd w A (bs.map bv)) (hn:bs.length=n):
  (execOp ρ o).run prog w= .ok (.value (.string ⟨bs.toArray⟩)) w:=by
 unfold execOp
 rw[ho]
 dsimp only
 rw[hx,Sem.run_bind,wJ hr hn]
 rfl
theorem uR (hL:L.lookup i=none) (hD:(L.all fun p=>!bP ops o p.1)=true) (hw:vJ ops o l=some true) {t:Nat} (ht:o.dst=some t) (x:Operand) (ho:o.op= .convert 27 9 x)
  {A:Option Addr} {n c:Nat} (hx:FF l x= .slice A n c) (bs:List UInt8) (hn:bs.length=n) (hr:∀ w,cI w0 w→Rd w A (bs.map bv))
  (hl:l.set t (.string ⟨bs.toArray⟩)=l') (k:bK prog ops cI Q w0 L (i+1) rest ⟨l'.toArray,d⟩):bK prog ops cI Q w0 L i (o :: rest) ⟨l.toArray,d⟩:=
 cT cI.refl hL hD hw ht (fun w hw'=>GQ x ho (by rw[jG];exact hx) (hr w hw') hn) hl k
def NM (bs:List UInt8):VP:=fun v w=>∃ A c,v= .slice A bs.length c∧Rd w A (bs.map bv)
theorem NM.mono {bs:List UInt8} {v:Value} {w w':World} (h:cI w w'):NM bs v w→NM bs v w':=by
 rintro⟨A,c,rfl,hr⟩
 exact⟨A,c,rfl,hr.b h⟩
theorem NM.own {bs:List UInt8} {v:Value} {w:World} {base:Nat} (h:cE w base v bs):NM bs v w:=by
 obtain⟨A,c,rfl,_,_⟩:=h.form
 exact⟨A,c,rfl,h.rd⟩
end
end Go.Proofs.YtobjgebojhjhnaaGreatDoor
namespace Go.Proofs.YtobjgebojhjhnaaGreatDoor
open Go.RowKit Tryz
theorem pP (n s:Nat) (k:Int) (hk:k=s) (h:(n:Int)+s≤140737488355328) (u:World):
  (Instr.makeSlice 27 (.int .i64 0) (.int .i64 ((n:Int)+k))).run prog u= .ok (.slice (some ⟨u.heap.size,0,none⟩) 0 (n+s)) (u.alloc (.cells (madeCells #[.int .u8 0] (n+s)) 5)):=by
 subst hk
 obtain⟨i0,hi,hz0,hz1,hz2⟩:=info_parts vS
 have h:=run_make (P:=prog) u 27 5 i0 (.int .u8 0) Tc hi hz0 .i64 .i64 (0:Int) ((n:Int)+s) OM OM (by rw[hz2];omega) OM
 have e:((n:Int)+s).toNat=n+s:=by omega
 rw[e] at h
 simpa [hz1,Value.cells] using h
theorem tR (m:Int) (h:0≤m) (k:Nat):m / 2 ^ (8*k) % 256=((UInt8.ofNat (m.toNat / 256 ^ k)).toNat:Int):=by
 obtain⟨n,rfl⟩:=Int.eq_ofNat_of_zero_le h
 have e:(UInt8.ofNat (n / 256 ^ k)).toNat=n / 256 ^ k % 256:=UInt8.toNat_ofNat'
 rw[Int.toNat_natCast,e,Ly]
 simp
theorem FX (m:Int) (h:0≤m):m % 256=((UInt8.ofNat m.toNat).toNat:Int):=by
 obtain⟨n,rfl⟩:=Int.eq_ofNat_of_zero_le h
 have e:(UInt8.ofNat n).toNat=n % 256:=UInt8.toNat_ofNat'
 rw[Int.toNat_natCast,e]
 simp
end Go.Proofs.YtobjgebojhjhnaaGreatDoor
