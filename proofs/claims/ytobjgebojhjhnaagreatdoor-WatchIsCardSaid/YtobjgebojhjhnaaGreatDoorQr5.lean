import Derived.Test.YtobjgebojhjhnaaGreatDoorQr4
namespace Go.Proofs.YtobjgebojhjhnaaGreatDoor
open Go.RowKit
def gw (G:List (Nat × (World→Prop))) (j:Nat) (w:World):Prop:=∀ p ∈ G,p.1=j→p.2 w
def ND (L:List (Nat × VP)) (G:List (Nat × (World→Prop))) (c:Nat→Value) (j:Nat):VP:=fun v w=>(match L.lookup j with|none=>fun v _=>v=c j|some phi=>phi:VP) v w∧gw G j w
theorem IL {L:List (Nat × VP)} {G:List (Nat × (World→Prop))} {c:Nat→Value} {j:Nat} (h:L.lookup j=none):ND L G c j=fun v w=>v=c j∧gw G j w:=by
 funext v w;unfold ND;rw[h]
theorem IM {L:List (Nat × VP)} {G:List (Nat × (World→Prop))} {c:Nat→Value} {j:Nat} {phi:VP} (h:L.lookup j=some phi):ND L G c j=fun v w=>phi v w∧gw G j w:=by
 funext v w;unfold ND;rw[h]
section
variable (P:Program) (ops:Array Oper) (R:World→World→Prop)
def gN (Q:Exit→Act→World→Prop) (w0:World) (L:List (Nat × VP)) (G:List (Nat × (World→Prop))):Nat→List Oper→Act→Prop
 |_,[],a=>∀ w,R w0 w→(∀ p ∈ G,p.2 w)→cV ops (fun _=>true) w (fun a'=>Q .normal a' w) L a
 |i,o :: rest,a=>match L.lookup i with
  |none=>∃ c,(∀ w,R w0 w→cV ops (bP ops o) w (fun a'=>dZ P ops R o a' w (fun v w'=>v=c∧gw G i w')) L a)∧gN Q w0 L G (i+1) rest (a.put o.dst c)
  |some phi=>(∀ w,R w0 w→cV ops (bP ops o) w (fun a'=>dZ P ops R o a' w (fun v w'=>phi v w'∧gw G i w')) L a)∧gN Q w0 L G (i+1) rest a
end
section
variable {P:Program} {ops:Array Oper} {R:World→World→Prop} {Q:Exit→Act→World→Prop} {w0:World} {L:List (Nat × VP)} {G:List (Nat × (World→Prop))}
theorem yO (a0:Act):∀ (rest:List Oper) (i:Nat) (a:Act),(∀ k,k<rest.length→rest[k]? =ops[i+k]?)→gN P ops R Q w0 L G i rest a→ ∀ c0:Nat→Value,a=cf ops L c0 a0 i→
  ∃ c:Nat→Value,(∀ j,j<i→c j=c0 j)∧(∀ j o,i≤j→j<i+rest.length→ops[j]? =some o→ ∀ w,R w0 w→cV ops (bP ops o) w (fun a'=>dZ P ops R o a' w (ND L G c j)) L (cf ops L c a0 j))∧
   (∀ w,R w0 w→(∀ p ∈ G,p.2 w)→cV ops (fun _=>true) w (fun a'=>Q .normal a' w) L (cf ops L c a0 (i+rest.length))):=by
 have congr:∀ (c d:Nat→Value) (i:Nat),(∀ j,j<i→c j=d j)→cf ops L c a0 i=cf ops L d a0 i:=by
  exact Xc131
 intro rest
 induction rest with
 |nil=>
  intro i a hr h c0 ha
  subst ha
  exact⟨c0,fun _ _=>rfl,fun j o hj hj2 ho=>by simp at hj2;omega,fun w hw hg=>h w hw hg⟩
 |cons o rest ih=>
  refine Xm93 ?_;intro i a hr h c0 ha ho hr' hd
  unfold gN at h
  cases hl:L.lookup i with
  |none=>
   refine Xm99 ?_;try clear h;intro v h1 h2 e1 c hc hob hfin hcv j o' hj hj2 ho'
   by_cases hji:j=i
   ·subst hji
    rw[ho] at ho'
    injection ho' with ho'
    subst ho'
    intro w hw
    rw[IL hl,hcv,congr c c0 j (fun k hk=>(hc k OM).trans (if_neg OM)),← ha]
    exact h1 w hw
   ·exact Xc100
  |some phi=>
   rw[hl] at h
   obtain⟨h1,h2⟩:=h
   obtain⟨c,hc,hob,hfin⟩:=ih (i+1) _ hr' h2 c0 (by simp only[cf,hl];exact ha)
   refine⟨c,fun j hj=>hc j OM,fun j o' hj hj2 ho'=>?_,by rw[List.length_cons,show i+(rest.length+1)=i+1+rest.length by omega];exact hfin⟩
   by_cases hji:j=i
   ·subst hji
    rw[ho] at ho'
    injection ho' with ho'
    subst ho'
    intro w hw
    rw[IM hl,congr c c0 j (fun k hk=>hc k OM),← ha]
    exact h1 w hw
   ·exact Xc100
theorem IP {c:Nat→Value} {a0:Act} {n g:Nat} {l:List Oper} (hl:l.toArray=ops) (hg:g=ops.size - n) (hT:pY ops n=true) (hB:sI ops (L.map (·.1))=true) (hkn:∀ p ∈ L,p.1<n) (hgn:∀ p ∈ G,p.1<n) (hrange:∀ j t,bG ops j=some t→t<a0.tmps.size)
  (htr:∀ a b d,R a b→R b d→R a d) (hmono:∀ p ∈ L,∀ v w w',R w w'→p.2 v w→p.2 v w')
  (hob:∀ j o,j<n→ops[j]? =some o→ ∀ w,R w0 w→cV ops (bP ops o) w (fun a'=>dZ P ops R o a' w (ND L G c j)) L (cf ops L c a0 j))
  (hsk:∀ w,R w w) (hgm:∀ p ∈ G,∀ w w',R w w'→p.2 w→p.2 w')
  (hfin:∀ w,R w0 w→(∀ p ∈ G,p.2 w)→cV ops (fun _=>true) w (fun a'=>wpList P ops Q (l.drop n) a' w) L (cf ops L c a0 n)):
  ∀ (fuel:Nat) (listed:Array Bool) (a:Act) (w:World) (U:List Nat),U.length=fuel→(∀ i,i ∈ U↔i<n∧listed.getD i false=false)→(∀ t,n≤t→t<ops.size→listed.getD t true=false)→nQ ops R w0 L c a0 listed a w→(∀ j,listed.getD j false=true→gw G j w)→U.Nodup→wpAny P .any ops Q (fuel+g) listed a w:=by
 subst hl hg
 simp only[pY,Bool.and_eq_true,decide_eq_true_eq] at hT
 obtain⟨⟨⟨hn,hs⟩,hc⟩,hq⟩:=hT
 obtain⟨hB1,hnd,hks⟩:=rC hB
 have huniq:∀ j t,bG l.toArray j=some t→ ∀ k,k≠j→bG l.toArray k≠some t:=by
  intro j t hj k hk
  cases ho:l.toArray[j]? with
  |none=>simp only[bG,ho] at hj;cases hj
  |some o=>exact(hB1 j o ho).2.2.1 k t (by simpa only[bG,ho,Option.bind_some] using hj) hk
 have hlt:∀ j t,bG l.toArray j=some t→j<l.toArray.size:=by
  intro j t hj
  rcases Nat.lt_or_ge j l.toArray.size with h|h
  ·exact h
  ·simp only[bG,Array.getElem?_eq_none h] at hj;cases hj
 have theTail:∀ (listed:Array Bool) (a:Act) (w:World),nQ l.toArray R w0 L c a0 listed a w→(∀ j,listed.getD j false=true→gw G j w)→(∀ t,n≤t→t<l.toArray.size→listed.getD t true=false)→(∀ i,i<n→listed.getD i false=true)→wpAny P .any l.toArray Q (l.toArray.size - n) listed a w:=by
  intro listed a w hI hgh htl hall
  have h1:=iN (fun j=>a.tmps.getD ((bG l.toArray j).getD 0) undef) L _ (hfin w hI.ext fun p hp=>hgh p.1 (hall p.1 (hgn p hp)) p hp rfl) (fun p hp _=>nZ hnd hrange hks hI p hp (hall _ (hkn p hp)))
  exact Xc31
 refine Xm72 ?_;intro noReady fuel
 induction fuel with
 |zero=>
  intro listed a w U hU hin htl hI hgh _
  have hall:∀ i,i<n→listed.getD i false=true:=by
   exact Xc165
  rw[Nat.zero_add]
  exact theTail listed a w hI hgh htl hall
 |succ fuel ih=>
  intro listed a w U hU hin htl hI hgh hnd2
  refine Xm40 ?_;intro u hu1 hu2 inv i hin' h0 o ho hall hiu hilt hsel hearly _ hlooks hdst
  have hop:dZ P l.toArray R o a w (ND L G c i):=by
   exact Xc27
  have next:∀ v w',R w w'→(ND L G c i) v w'→wpAny P .any l.toArray Q (fuel+(l.toArray.size - n)) (listed.setIfInBounds i true) (a.put o.dst v) w':=by
   intro v w' hR hok
   have hset:∀ j,(listed.setIfInBounds i true).getD j false=true→listed.getD j false=true∨j=i:=by
    exact Xc118
   refine ih _ _ _ (U.erase i) ?_ ?_ (fun t ht ht'=>(getD_set_ne true (show i≠t by omega)).trans (htl t ht ht')) ⟨by simp[hI.lsize],by rw[gG,hI.size],by rw[kO,hI.defers],htr _ _ _ hI.ext hR,?_,?_,?_,?_⟩ ?_ ?_
   ·have:=List.length_erase_of_mem ((hin i).2 ⟨hin',hiu⟩)
    omega
   ·exact Xc94
   ·exact Xc70
   ·intro j t hj ht hjl hlk
    by_cases hji:j=i
    ·subst hji
     rw[hdst] at hj
     have hok1:=hok.1
     rw[hlk] at hok1
     rw[hj,eE _ _ _ (by rw[hI.size];exact ht)]
     exact congrArg some hok1
    ·exact Xc92
   ·intro j t phi hj ht hjl hlk
    by_cases hji:j=i
    ·subst hji
     rw[hdst] at hj
     have hok1:=hok.1
     rw[hlk] at hok1
     rw[hj,eE _ _ _ (by rw[hI.size];exact ht)]
     exact⟨v,rfl,hok1⟩
    ·exact Xc83
   ·exact Xc44
   ·intro j hj p hp hpj
    rcases hset j hj with h|h
    ·exact hgm p hp w w' hR (hgh j h p hp hpj)
    ·subst h
     exact hok.2 p hp hpj
   ·exact hnd2.erase i
  unfold dZ at hop
  unfold wpOp
  rw[ho]
  dsimp only
  by_cases hw:Region.wanted o (yielded l.toArray a.tmps)=true
  ·exact Xc52
  ·rw[if_neg hw] at hop ⊢
   exact next undef w (hsk w) hop
theorem Ei {a:Act} {w:World} {l:List Oper} (n:Nat) (L:List (Nat × VP)) (G:List (Nat × (World→Prop))) (R:World→World→Prop) (hT:pY l.toArray n=true) (hB:sI l.toArray (L.map (·.1))=true)
  (hkn:L.all (fun p=>decide (p.1<n))=true) (hgn:G.all (fun p=>decide (p.1<n))=true)
  (hrange:l.all (fun o=>match o.dst with|some d=>decide (d<a.tmps.size)|none=>true)=true)
  (hrefl:∀ w,R w w) (htr:∀ a b d,R a b→R b d→R a d) (hmono:∀ p ∈ L,∀ v w w',R w w'→p.2 v w→p.2 v w')
  (hgm:∀ p ∈ G,∀ w w',R w w'→p.2 w→p.2 w')
  (h:gN P l.toArray R (fun _ a' w'=>wpList P l.toArray Q (l.drop n) a' w') w.drew L G 0 (l.take n) a):wpAny P .any l.toArray Q l.toArray.size (Array.replicate l.toArray.size false) a w.drew:=by
 have hT':=hT
 simp only[pY,Bool.and_eq_true,decide_eq_true_eq] at hT'
 have hn:n<l.toArray.size:=hT'.1.1.1
 have htk:(l.take n).length=n:=by simp;simp at hn;omega
 obtain⟨c,_,hob,hfin⟩:=yO a (l.take n) 0 a (fun k hk=>by rw[htk] at hk;simp[hk]) h (fun _=>undef) rfl
 rw[Nat.zero_add,htk] at hfin
 have hnone:∀ j,¬ (Array.replicate l.toArray.size false).getD j false=true:=by
  exact Xc135
 have:=IP (G:=G) (g:=l.toArray.size - n) (Q:=Q) (c:=c) (a0:=a) rfl rfl hT hB (fun p hp=>by have:=List.all_eq_true.1 hkn p hp;simpa using this) (fun p hp=>by have:=List.all_eq_true.1 hgn p hp;simpa using this) (fun j t hj=>?_) htr hmono (fun j o hj ho=>hob j o (Nat.zero_le _) (by rw[htk];omega) ho) hrefl hgm hfin n _ a _ (List.range n) zS (fun i=>?_) (fun t _ h2=>?_) ⟨by simp,rfl,rfl,hrefl _,fun i o _ hl=>absurd hl (hnone i),fun j t _ _ hl=>absurd hl (hnone j),fun j t phi _ _ hl=>absurd hl (hnone j),fun t _=>rfl⟩ (fun j hl=>absurd hl (hnone j)) List.nodup_range
 ·rw[show n+(l.toArray.size - n)=l.toArray.size by omega] at this
  exact this
 ·exact Xc62
 ·rw[List.mem_range]
  exact⟨fun h=>⟨h,by have:=hnone i;simpa using this⟩,fun h=>h.1⟩
 ·rw[Array.getD_eq_getD_getElem?,Array.getElem?_replicate,if_pos h2]
  rfl
theorem eH {id:Nat} {a:Act} {w:World} {l:List Oper} (n:Nat) (L:List (Nat × VP)) (G:List (Nat × (World→Prop))) (R:World→World→Prop) (hm:P.follows .mixedOrders=true) (hT:pY l.toArray n=true) (hB:sI l.toArray (L.map (·.1))=true)
  (hkn:L.all (fun p=>decide (p.1<n))=true) (hgn:(G.map (·.1)).all (fun p=>decide (p<n))=true)
  (hrange:l.all (fun o=>match o.dst with|some d=>decide (d<a.tmps.size)|none=>true)=true)
  (hrefl:∀ w,R w w) (htr:∀ a b d,R a b→R b d→R a d) (hmono:∀ p ∈ L,∀ v w w',R w w'→p.2 v w→p.2 v w') (hgm:∀ p ∈ G,∀ w w',R w w'→p.2 w→p.2 w')
  (h:gN P l.toArray R (fun _ a' w'=>wpList P l.toArray Q (l.drop n) a' w') w.drew L G 0 (l.take n) a):(Code.region id l.toArray true).wp P Q a w:=
 wp_region_any hm (Ei n L G R hT hB hkn (by rw[List.all_map] at hgn;exact hgn) hrange hrefl htr hmono hgm h)
theorem Cr {w:World} {ok ok':VP} (hk:∀ v w',ok v w'→ok' v w') {r:Result Next} (h:pD P R w ok r):pD P R w ok' r:=by
 cases r with
 |halt x w'=>exact h
 |ok nx w'=>
  cases nx with
  |value v=>exact⟨h.1,hk _ _ h.2⟩
  |skip=>exact⟨h.1,hk _ _ h.2⟩
  |enter f args=>exact Calls.mono h fun _ _ ⟨v,h1,h2,h3⟩=>⟨v,h1,h2,hk _ _ h3⟩
  |_=>exact h
theorem FG {i:Nat} {w:World} (hG:((G.map (·.1)).all fun p=>p !=i)=true):gw G i w:=fun p hp e=>by
 rw[List.all_map,List.all_eq_true] at hG
 have:=hG p hp
 simp[e] at this
theorem rU {i:Nat} {o:Oper} {rest:List Oper} {a:Act} (hrefl:∀ w,R w w) (hG:((G.map (·.1)).all fun p=>p !=i)=true)
  (h:bK P ops R (fun _ a' _=>gN P ops R Q w0 [] G (i+1) rest a') w0 [] i [o] a):gN P ops R Q w0 [] G i (o :: rest) a:=by
 unfold bK at h
 unfold gN
 obtain⟨c,h1,h2⟩:=h
 refine⟨c,fun w hw=>?_,h2 w0 (hrefl _)⟩
 have h3:dZ P ops R o a w (fun v _=>v=c):=h1 w hw
 show dZ P ops R o a w (fun v w'=>v=c∧gw G i w')
 unfold dZ at h3 ⊢
 split
 ·rename_i hh
  rw[if_pos hh] at h3
  exact Cr (fun v w' hv=>⟨hv,FG hG⟩) h3
 ·rename_i hh
  rw[if_neg hh] at h3
  exact⟨h3,FG hG⟩
theorem jC {i:Nat} {K:Act→Prop} {a:Act} (k:K a):bK P ops R (fun _ a' _=>K a') w0 [] i [] a:=fun _ _=>k
theorem pJ {i:Nat} {o:Oper} {rest:List Oper} {l:List Value} {d:List Deferred} (hw:vJ ops o l=some true) (hd:o.dst=none) (h:∀ w,R w0 w→∃ w',(execOp (Act.eval ⟨l.toArray,d⟩) o).run P w= .ok .skip w'∧R w w'∧gw G i w')
  (k:gN P ops R Q w0 [] G (i+1) rest ⟨l.toArray,d⟩):gN P ops R Q w0 [] G i (o :: rest) ⟨l.toArray,d⟩:=by
 unfold gN
 refine⟨undef,fun w hR=>?_,by rw[hd];exact k⟩
 show dZ P ops R o ⟨l.toArray,d⟩ w _
 unfold dZ
 rw[if_pos (iO hw)]
 obtain⟨w',hr,h1,h2⟩:=h w hR
 rw[hr]
 exact⟨h1,rfl,h2⟩
theorem mG {i:Nat} {a:Act} (h:∀ w,R w0 w→(∀ p ∈ G,p.2 w)→Q .normal a w):gN P ops R Q w0 [] G i [] a:=h
end
def RS (H:Nat) (t:TypeId) (C:List Value) (w w':World):Prop:=Fr (fun k=>k=H) w w'∧(Av w H t C→Av w' H t C)∧((∃ l:List Value,Av w H t l∧l.length=C.length)→∃ l:List Value,Av w' H t l∧l.length=C.length)
theorem RS.refl {H:Nat} {t:TypeId} {C:List Value} (w:World):RS H t C w w:=⟨Fr.refl _ _,id,id⟩
theorem RS.trans {H:Nat} {t:TypeId} {C:List Value} (a b c:World) (h:RS H t C a b) (k:RS H t C b c):RS H t C a c:=⟨h.1.trans k.1,fun x=>k.2.1 (h.2.1 x),fun x=>k.2.2 (h.2.2 x)⟩
theorem fY {P:Program} {w0 w:World} {o:Oper} {ρ:Operand→Value} {g:Nat} {t:TypeId} {old C:List Value} (h0:Av w0 g t old) (hold:old.length=C.length) (hR:RS g t C w0 w) (ty:TypeId) (x y:Operand) (ho:o.op= .store ty x y) (hx:ρ x= .pointer (some ⟨g,0,none⟩)) (hy:ρ y= .agg C.toArray) (n:Nat) (hn:C.length=n)
  (hi:(P.info? ty).map (·.size)=some n) (h1:C.all (·.oneCell')=true) (i:Nat):∃ w',(execOp ρ o).run P w= .ok .skip w'∧RS g t C w w'∧gw [(i,fun w=>Av w g t C)] i w':=by
 obtain⟨l,hl,hll⟩:=hR.2.2 ⟨old,h0,hold⟩
 have hset:=setRow_heap w g l.toArray C.toArray t (0,0) hl
 refine⟨w.setRow g C.toArray,?_,⟨⟨rfl,rfl,rfl,by simp,fun k _ hk=>setRow_other _ _ _ _ hk⟩,fun _=>hset,fun _=>⟨C,hset,rfl⟩⟩,fun p hp _=>?_⟩
 ·unfold execOp
  simp only[ho,hx,hy,Instr.storeAt,Instr.sureAddr,Sem.run_bind,Sem.run_pure,Result.andThen_ok,run_storeVar_row w g t ty l.toArray C.toArray hl (by rw[List.size_toArray,hn];exact hi) (by rw[List.size_toArray,List.size_toArray,hll]) (by simpa using h1)]
 ·rw[List.mem_singleton.1 hp];exact hset
theorem yP {fn:Func} {p u v:Tmp} {ty:TypeId} (h:fn.results= #[.cell p ty,.tmp u,.tmp v]) (tmps:Array Value) (P:Program) (w:World):
  (results fn tmps).run P w=((asAddr (tmps.getD p undef)).run P w).andThen fun a w₁=>((loadVar ty a).run P w₁).andThen fun x w₂=>.ok (.tuple #[x,tmps.getD u undef,tmps.getD v undef]) w₂:=by
 simp only[results,h]
 simp[Sem.run_bind,Result.andThen]
theorem Xc146 {p:Prop} (h:p:=by
 simp only[asAddr,Sem.run_pure,Result.andThen_ok,run_loadVar_row w g t ty _ _ d ha hu (by cases d <;> first|rfl|(simp[TypeDesc.isRow] at hd)) (by rw[List.size_toArray,hn];exact hi)]):p:=h
theorem cC {fn:Func} {p u v:Tmp} {ty:TypeId} (h:fn.results= #[.cell p ty,.tmp u,.tmp v]) {tmps:Array Value} {P:Program} {w:World} {g:Nat} {t:TypeId} {C:List Value} (hp:tmps.getD p undef= .pointer (some ⟨g,0,none⟩)) (ha:Av w g t C) (d:TypeDesc) (hu:P.underlying ty=some d) (hd:d.isRow=true)
  (n:Nat) (hn:C.length=n) (hi:(P.info? ty).map (·.size)=some n):
  (results fn tmps).run P w= .ok (.tuple #[.agg C.toArray,tmps.getD u undef,tmps.getD v undef]) w:=by
 rw[yP h,hp]
 exact Xc146
end Go.Proofs.YtobjgebojhjhnaaGreatDoor
namespace Go.Proofs.YtobjgebojhjhnaaGreatDoor
open Go.RowKit
theorem aK {fn:Func} {p u:Tmp} {ty:TypeId} (h:fn.results= #[.cell p ty,.tmp u]) {tmps:Array Value} {P:Program} {w:World} {g:Nat} {t:TypeId} {C:List Value} (hp:tmps.getD p undef= .pointer (some ⟨g,0,none⟩)) (ha:Av w g t C) (d:TypeDesc) (hu:P.underlying ty=some d) (hd:d.isRow=true)
  (n:Nat) (hn:C.length=n) (hi:(P.info? ty).map (·.size)=some n):
  (results fn tmps).run P w= .ok (.tuple #[.agg C.toArray,tmps.getD u undef]) w:=by
 rw[results_cell_tmp h,hp]
 exact Xc146
theorem dF {P:Program} {ops:Array Oper} {rest:List Oper} {a:Act} {w:World} {Q:Exit→Act→World→Prop} {d tp pos af gd} {op:BinOp} {ty ty':TypeId} {x y:Operand} (hw:Region.wanted ⟨d,.binOp op ty x y ty',tp,pos,af,gd⟩ (yielded ops a.tmps)=true) {X Y:Value} (hx:a.eval x=X) (hy:a.eval y=Y) {c:Value}
  (h:((do eqGuard op ty x y X Y;binOp op ty X Y:Sem Value)).run P w= .ok c w) (k:wpList P ops Q rest (a.put d c) w):wpList P ops Q (⟨d,.binOp op ty x y ty',tp,pos,af,gd⟩ :: rest) a w:=by
 refine eF hw ?_ k
 have e:execOp a.eval ⟨d,.binOp op ty x y ty',tp,pos,af,gd⟩=(do pure (.value (← (do eqGuard op ty x y (a.eval x) (a.eval y);binOp op ty (a.eval x) (a.eval y))))):=by
  unfold execOp
  rfl
 rw[e,hx,hy,Sem.run_bind,h]
 rfl
theorem jY {P:Program} (ty:TypeId) {w:World} {g:Nat} {t:TypeId} {l:List Value} (h:Av w g t l) {ops:Array Oper} {rest:List Oper} {a:Act} {Q:Exit→Act→World→Prop} {d tp pos af gd} {x:Operand}
  (hw:Region.wanted ⟨d,.load ty x,tp,pos,af,gd⟩ (yielded ops a.tmps)=true) (hx:a.eval x= .pointer (some ⟨g,0,none⟩)) (dd:TypeDesc) (n:Nat) (hn:l.length=n) (hu:P.underlying ty=some dd) (hd:(match dd with| .struct _| .array _ _=>true|_=>false)=true) (hi:(P.info? ty).map (·.size)=some n)
  (k:wpList P ops Q rest (a.put d (.agg l.toArray)) w):wpList P ops Q (⟨d,.load ty x,tp,pos,af,gd⟩ :: rest) a w:=
 eF hw (aE h ty x rfl hx dd n hn hu hd hi) k
section
variable {P:Program} {ty:TypeId} {w:World} {g:Nat} {t:TypeId} {ops:Array Oper} {rest:List Oper} {a:Act} {Q:Exit→Act→World→Prop} {d tp pos af gd} {x:Operand}
theorem LG {l:List Value} (h:Av w g t l) (n:Nat) {dd:TypeDesc} (hu:P.underlying ty=some dd) (hw:Region.wanted ⟨d,.load ty x,tp,pos,af,gd⟩ (yielded ops a.tmps)=true) (hx:a.eval x= .pointer (some ⟨g,0,none⟩)) (k:wpList P ops Q rest (a.put d (.agg l.toArray)) w) (hn:l.length=n:=by kernel_rfl) (hd:(match dd with| .struct _| .array _ _=>true|_=>false)=true:=by kernel_rfl) (hi:(P.info? ty).map (·.size)=some n:=by kernel_rfl):wpList P ops Q (⟨d,.load ty x,tp,pos,af,gd⟩ :: rest) a w:=
 jY ty h hw hx dd n hn hu hd hi k
end
end Go.Proofs.YtobjgebojhjhnaaGreatDoor
namespace Go.Proofs.YtobjgebojhjhnaaGreatDoor
open Go.RowKit
def RC (H:Nat) (t:TypeId) (B C:List Value) (w w':World):Prop:=Fr (fun k=>k=H) w w'∧(Av w H t C→Av w' H t C)∧(Av w H t B→Av w' H t B∨Av w' H t C)
theorem RC.refl {H:Nat} {t:TypeId} {B C:List Value} (w:World):RC H t B C w w:=⟨Fr.refl _ _,id,.inl⟩
theorem RC.trans {H:Nat} {t:TypeId} {B C:List Value} (a b c:World) (h:RC H t B C a b) (k:RC H t B C b c):RC H t B C a c:=
 ⟨h.1.trans k.1,fun x=>k.2.1 (h.2.1 x),fun x=>(h.2.2 x).elim k.2.2 (fun y=>.inr (k.2.1 y))⟩
theorem RC.ofBelow {H:Nat} {t:TypeId} {B C:List Value} {w w':World} (h:Below w.heap.size w w'):RC H t B C w w':=
 ⟨Below.fr h,fun a=>a.b h,fun a=>.inl (a.b h)⟩
theorem pK {P:Program} (ty:TypeId) {w:World} {g i:Nat} {t:TypeId} {l:List Value} (h:Av w g t l) (hi:i<l.length) (kk:IntKind) (z:Int) {o:Oper} {ρ:Operand→Value} {x y:Operand} (ho:o.op= .store ty x y)
  (hx:ρ x= .pointer (some ⟨g,i,none⟩)) (hy:ρ y= .int kk z) (hs:(P.info? ty).map (·.size)=some 1):(execOp ρ o).run P w= .ok .skip (w.setCell ⟨g,i,none⟩ (.int kk z)):=by
 refine Xm116 ?_;intro hc hf i0 hi0 hz0 hsz
 unfold execOp
 simp only[ho,hx,hy]
 go_simp
theorem RC.store {P:Program} {w0 w:World} {o:Oper} {ρ:Operand→Value} {g:Nat} {t:TypeId} {B C:List Value} (h0:Av w0 g t B) (hR:RC g t B C w0 w) (ty:TypeId) (x y:Operand) (ho:o.op= .store ty x y) (i:Nat) (hi:i<B.length) (hi2:i<C.length) (kk:IntKind) (z:Int)
  (hx:ρ x= .pointer (some ⟨g,i,none⟩)) (hy:ρ y= .int kk z) (hs:(P.info? ty).map (·.size)=some 1) (e1:B.set i (.int kk z)=C) (e2:C.set i (.int kk z)=C) (j:Nat):∃ w',(execOp ρ o).run P w= .ok .skip w'∧RC g t B C w w'∧gw [(j,fun w=>Av w g t C)] j w':=by
 have hC:Av (w.setCell ⟨g,i,none⟩ (.int kk z)) g t C:=by
  rcases hR.2.2 h0 with a|a
  ·have:=a.set i (.int kk z);rwa [e1] at this
  ·have:=a.set i (.int kk z);rwa [e2] at this
 refine⟨w.setCell ⟨g,i,none⟩ (.int kk z),?_,⟨Fr.setCell w ⟨g,i,none⟩ _,fun _=>hC,fun _=>.inr hC⟩,fun p hp _=>?_⟩
 ·rcases hR.2.2 h0 with a|a
  ·exact pK ty a hi kk z ho hx hy hs
  ·exact pK ty a hi2 kk z ho hx hy hs
 ·rw[List.mem_singleton.1 hp];exact hC
structure sN where
 ka:Nat
 s:Nat
 ks:Nat
 t:TypeId
 Z:List Value
 C:List Value
def BL (Bs:List sN):List (Nat × VP):=Bs.map fun e=>(e.ka,fun _ _=>True)
theorem FQ {Bs:List sN} {j:Nat} {phi:VP} (h:(BL Bs).lookup j=some phi) (v:Value) (w:World):phi v w:=by
 have:=pE h
 obtain⟨e,_,he⟩:=List.mem_map.1 this
 cases he
 trivial
structure JB (H0:Nat) (Bs:List sN) (listed:Array Bool) (tm:Array Value) (w:World):Prop where
 at_:∀ e ∈ Bs,listed.getD e.ka false=true→∃ b,tm[e.s]? =some (.pointer (some ⟨b,0,none⟩))∧H0≤b∧Av w b e.t (if listed.getD e.ks false=true then e.C else e.Z)
 ne:∀ e ∈ Bs,∀ f ∈ Bs,e.s≠f.s→listed.getD e.ka false=true→listed.getD f.ka false=true→ ∀ b,tm[e.s]? =some (.pointer (some ⟨b,0,none⟩))→tm[f.s]? ≠some (.pointer (some ⟨b,0,none⟩))
def spc (Bs:List sN) (i:Nat):Bool:=Bs.any fun e=>e.ka==i || e.ks==i
theorem Bh {Bs:List sN} {i:Nat} (h:spc Bs i=false):(Bs.find? fun e=>e.ks==i)=none:=by
 rw[List.find?_eq_none]
 intro e he hi
 have:=List.any_eq_false.1 h e he
 simp_all
theorem Bi {Bs:List sN} {i:Nat} (h:spc Bs i=false):(Bs.find? fun e=>e.ka==i)=none:=by
 rw[List.find?_eq_none]
 intro e he hi
 have:=List.any_eq_false.1 h e he
 simp_all
def QX (ops:Array Oper) (n:Nat) (Bs:List sN):Bool:=
 Bs.all (fun e=>decide (e.ka<n) && decide (bG ops e.ka=some e.s) && (match ops[e.ka]? with|some o=>o.guard.isNone|none=>false) && decide (e.ka≠e.ks) &&
  (decide (ops.size≤e.ks) || (decide (e.ks<n) && (match ops[e.ks]? with|some o=>o.guard.isNone && o.dst.isNone && kK o e.ka && (o.looksAt ops).contains e.s|none=>false)))) &&
 Bs.all (fun e=>Bs.all fun f=>(decide (e.s=f.s)==decide (e.ka=f.ka)) && (decide (e.s=f.s) || !decide (e.ks=f.ks) || decide (ops.size≤e.ks)) && decide (e.ka≠f.ks)) &&
 decide (Bs.map (·.s)).Nodup
theorem tI {α β:Type} {f:α→β}:∀ {l:List α},(l.map f).Nodup→ ∀ {x y:α},x ∈ l→y ∈ l→f x=f y→x=y
 | [],_,x,_,hx,_,_=>by cases hx
 |a :: l,h,x,y,hx,hy,e=>by
  rw[List.map_cons,List.nodup_cons] at h
  rcases List.mem_cons.1 hx with rfl|hx' <;> rcases List.mem_cons.1 hy with rfl|hy'
  ·rfl
  ·exact absurd (List.mem_map.2 ⟨y,hy',e.symm⟩) h.1
  ·exact absurd (List.mem_map.2 ⟨x,hx',e⟩) h.1
  ·exact tI h.2 hx' hy' e
structure Bj (ops:Array Oper) (n:Nat) (Bs:List sN):Prop where
 lt:∀ e ∈ Bs,e.ka<n
 dst:∀ e ∈ Bs,bG ops e.ka=some e.s
 grd:∀ e ∈ Bs,∀ o,ops[e.ka]? =some o→o.guard=none
 self:∀ e ∈ Bs,e.ka≠e.ks
 sto:∀ e ∈ Bs,e.ks<ops.size→ ∀ o,ops[e.ks]? =some o→o.guard=none∧o.dst=none∧kK o e.ka=true∧e.s ∈ o.looksAt ops
 slot:∀ e ∈ Bs,∀ f ∈ Bs,e.s=f.s→e=f
 alloc:∀ e ∈ Bs,∀ f ∈ Bs,e.ka=f.ka→e=f
 store:∀ e ∈ Bs,∀ f ∈ Bs,e.ks<ops.size→e.ks=f.ks→e=f
 cross:∀ e ∈ Bs,∀ f ∈ Bs,e.ka≠f.ks
theorem Aa {ops:Array Oper} {n:Nat} {Bs:List sN} (h:QX ops n Bs=true):Bj ops n Bs:=by
 unfold QX at h
 simp only[Bool.and_eq_true,decide_eq_true_eq,List.all_eq_true,Bool.or_eq_true,beq_iff_eq,Bool.not_eq_true',decide_eq_false_iff_not,decide_eq_decide] at h
 obtain⟨⟨h1,h2⟩,h3⟩:=h
 have hslot:∀ e ∈ Bs,∀ f ∈ Bs,e.s=f.s→e=f:=fun e he f hf hs=>tI h3 he hf hs
 refine⟨fun e he=>(h1 e he).1.1.1.1,fun e he=>(h1 e he).1.1.1.2,fun e he o ho=>?_,fun e he=>(h1 e he).1.2,fun e he hlt o ho=>?_,hslot,fun e he f hf hk=>?_,fun e he f hf hlt hk=>?_,fun e he f hf=>(h2 e he f hf).2⟩
 ·have:=(h1 e he).1.1.2
  rw[ho] at this
  simpa using this
 ·rcases (h1 e he).2 with h|⟨_,h⟩
  ·omega
  ·rw[ho] at h
   simp only[Bool.and_eq_true,Option.isNone_iff_eq_none,List.contains_iff_mem] at h
   exact⟨h.1.1.1,h.1.1.2,h.1.2,h.2⟩
 ·exact hslot e he f hf ((h2 e he f hf).1.1.2 hk)
 ·rcases (h2 e he f hf).1.2 with (h|h)|h
  ·exact hslot e he f hf h
  ·exact absurd hk h
  ·omega
section
variable {P:Program} {ops:Array Oper} {Q:Exit→Act→World→Prop} {w0:World} {Bs:List sN}
theorem uO {e:sN}:∀ {Bs:List sN},e ∈ Bs→(BL Bs).lookup e.ka≠none
 | [],h=>by cases h
 |f :: r,h=>by
  simp only[BL,List.map_cons,List.lookup]
  split
  ·simp
  ·rename_i hk
   rcases List.mem_cons.1 h with rfl|h
   ·simp at hk
   ·exact uO h
theorem Bl {i:Nat}:∀ {Bs:List sN},(∀ e ∈ Bs,e.ka≠i)→(BL Bs).lookup i=none
 | [],_=>rfl
 |f :: r,h=>by
  simp only[BL,List.map_cons,List.lookup]
  split
  ·rename_i hk
   simp at hk
   exact absurd hk.symm (h f (List.mem_cons_self ..))
  ·exact Bl fun e he=>h e (List.mem_cons_of_mem _ he)
theorem Bm (V:Nat→Value) (w:World):∀ p ∈ BL Bs,p.2 (V p.1) w:=by
 intro p hp
 obtain⟨e,_,rfl⟩:=List.mem_map.1 hp
 trivial
theorem Xm158 {p q:Prop} (k:q) (h:Hid q→p:=by
 intro hk
 have k1:∀ e ∈ Bs,(listed.setIfInBounds i true).getD e.ka false=listed.getD e.ka false:=fun e he=>getD_set_ne false (Ne.symm (hi e he).1)
 have k2:∀ e ∈ Bs,(listed.setIfInBounds i true).getD e.ks false=listed.getD e.ks false:=fun e he=>getD_set_ne false (Ne.symm (hi e he).2)
 revert k1 k2;exact hk.out):p:=h (Hy k)
theorem JB.normal {H0 i:Nat} {listed:Array Bool} {a:Act} {w w':World} (h:JB H0 Bs listed a.tmps w) (hi:∀ e ∈ Bs,e.ka≠i∧e.ks≠i) {d:Option Tmp} (hd:∀ e ∈ Bs,d≠some e.s) (hE:Below w.heap.size w w') (v:Value):JB H0 Bs (listed.setIfInBounds i true) (a.put d v).tmps w':=by
 have t:∀ e ∈ Bs,(a.put d v).tmps[e.s]? =a.tmps[e.s]? :=fun e he=>gH _ _ _ _ (hd e he)
 refine Xm158 ?_;intro k1 k2
 refine⟨fun e he hl=>?_,fun e he f hf hs h1 h2 b hb=>?_⟩
 ·rw[k1 e he] at hl
  obtain⟨b,p,q,r⟩:=h.at_ e he hl
  exact⟨b,by rw[t e he];exact p,q,by rw[k2 e he];exact r.b hE⟩
 ·rw[k1 e he] at h1
  rw[k1 f hf] at h2
  rw[t e he] at hb
  rw[t f hf]
  exact h.ne e he f hf hs h1 h2 b hb
theorem JB.alloc {H0 i n:Nat} {listed:Array Bool} {a:Act} {w:World} (h:JB H0 Bs listed a.tmps w) (F:Bj ops n Bs) {e:sN} (he:e ∈ Bs) (hei:e.ka=i) (hno:listed.getD e.ks false=false) (_:i<listed.size) (hs:e.s<a.tmps.size) (hH:H0≤w.heap.size):
  JB H0 Bs (listed.setIfInBounds i true) (a.put (some e.s) (.pointer (some ⟨w.heap.size,0,none⟩))).tmps (w.alloc (.cells e.Z.toArray e.t (0,0))):=by
 have t0:(a.put (some e.s) (.pointer (some ⟨w.heap.size,0,none⟩))).tmps[e.s]? =some (.pointer (some ⟨w.heap.size,0,none⟩)):=eE _ _ _ hs
 have t:∀ f ∈ Bs,f≠e→(a.put (some e.s) (.pointer (some ⟨w.heap.size,0,none⟩))).tmps[f.s]? =a.tmps[f.s]? :=fun f hf hn=>gH _ _ _ _ (fun q=>hn (F.slot f hf e he (Option.some.inj q).symm))
 have k1:∀ f ∈ Bs,f≠e→(listed.setIfInBounds i true).getD f.ka false=listed.getD f.ka false:=fun f hf hn=>getD_set_ne false (fun q=>hn (F.alloc f hf e he OM))
 have k2:∀ f ∈ Bs,(listed.setIfInBounds i true).getD f.ks false=listed.getD f.ks false:=fun f hf=>getD_set_ne false (fun q=>F.cross e he f hf OM)
 have lo:∀ f ∈ Bs,f≠e→(listed.setIfInBounds i true).getD f.ka false=true→ ∀ b,(a.put (some e.s) (.pointer (some ⟨w.heap.size,0,none⟩))).tmps[f.s]? =some (.pointer (some ⟨b,0,none⟩))→b<w.heap.size:=by
  intro f hf hn hl b hb
  rw[k1 f hf hn] at hl
  obtain⟨b',p,_,r⟩:=h.at_ f hf hl
  rw[t f hf hn,p] at hb
  simp at hb
  subst hb
  exact r.lt
 refine⟨fun f hf hl=>?_,fun f hf g hg hsn h1 h2 b hb hb'=>?_⟩
 ·by_cases hn:f=e
  ·subst hn
   refine⟨_,t0,hH,?_⟩
   rw[k2 f hf,hno]
   exact heap_alloc_new _ _
  ·rw[k1 f hf hn] at hl
   obtain⟨b,p,q,r⟩:=h.at_ f hf hl
   exact⟨b,by rw[t f hf hn];exact p,q,by rw[k2 f hf];exact r.alloc _⟩
 ·by_cases hn:f=e
  ·subst hn
   have hg':g≠f:=fun q=>hsn (by rw[q])
   rw[t0] at hb
   simp at hb
   have:=lo g hg hg' h2 b hb'
   omega
  ·by_cases hm:g=e
   ·subst hm
    rw[t0] at hb'
    simp at hb'
    have:=lo f hf hn h1 b hb
    omega
   ·rw[k1 f hf hn] at h1
    rw[k1 g hg hm] at h2
    rw[t f hf hn] at hb
    rw[t g hg hm] at hb'
    exact h.ne f hf g hg hsn h1 h2 b hb hb'
theorem JB.store {H0 i n:Nat} {listed:Array Bool} {tm:Array Value} {w w':World} (h:JB H0 Bs listed tm w) (F:Bj ops n Bs) {e:sN} (he:e ∈ Bs) (hei:e.ks=i) (hi:i<listed.size) (hi2:i<ops.size) (hka:listed.getD e.ka false=true) {b:Nat} (hb:tm[e.s]? =some (.pointer (some ⟨b,0,none⟩))) (hA:Av w' b e.t e.C) (hF:Fr (fun k=>k=b) w w'):
  JB H0 Bs (listed.setIfInBounds i true) tm w':=by
 have k1:∀ f ∈ Bs,(listed.setIfInBounds i true).getD f.ka false=listed.getD f.ka false:=fun f hf=>getD_set_ne false (fun q=>F.cross f hf e he OM)
 have k2:∀ f ∈ Bs,f≠e→(listed.setIfInBounds i true).getD f.ks false=listed.getD f.ks false:=fun f hf hn=>getD_set_ne false (fun q=>hn (F.store e he f hf OM OM).symm)
 have k0:(listed.setIfInBounds i true).getD e.ks false=true:=by
  rw[hei,Array.getD_eq_getD_getElem?,Array.getElem?_setIfInBounds_self_of_lt hi]
  rfl
 refine⟨fun f hf hl=>?_,fun f hf g hg hs h1 h2 b hb=>h.ne f hf g hg hs (by rw[← k1 f hf];exact h1) (by rw[← k1 g hg];exact h2) b hb⟩
 rw[k1 f hf] at hl
 obtain⟨c,p,q,r⟩:=h.at_ f hf hl
 refine⟨c,p,q,?_⟩
 by_cases hn:f=e
 ·subst hn
  rw[k0,if_pos rfl]
  rw[hb] at p
  simp at p
  subst p
  exact hA
 ·rw[k2 f hf hn]
  refine hF.av r fun hc=>?_
  subst hc
  exact h.ne e he f hf (fun q=>hn (F.slot e he f hf q).symm) hka hl c hb p
def SJ (P:Program) (ops:Array Oper) (w0:World) (Bs:List sN) (c:Nat→Value) (j:Nat) (o:Oper) (a:Act):Prop:=
 match Bs.find? fun e=>e.ks==j with
 |some e=>∀ w,cI w0 w→cV ops (bP ops o) w (fun a'=>∀ b,a'.tmps[e.s]? =some (.pointer (some ⟨b,0,none⟩))→Av w b e.t e.Z→∃ w',(execOp a'.eval o).run P w= .ok .skip w'∧Av w' b e.t e.C∧Fr (fun k=>k=b) w w') (BL Bs) a
 |none=>match Bs.find? fun e=>e.ka==j with
  |some e=>∀ (ρ:Operand→Value) w,(execOp ρ o).run P w= .ok (.value (.pointer (some ⟨w.heap.size,0,none⟩))) (w.alloc (.cells e.Z.toArray e.t (0,0)))
  |none=>∀ w,cI w0 w→cV ops (bP ops o) w (fun a'=>dZ P ops cI o a' w (fun u _=>u=c j)) (BL Bs) a
def oK (P:Program) (ops:Array Oper) (w0:World) (Bs:List sN) (Q:Exit→Act→World→Prop):Nat→List Oper→Act→Prop
 |_,[],a=>∀ w,cI w0 w→cV ops (fun _=>true) w (fun a'=>Q .normal a' w) (BL Bs) a
 |i,o :: rest,a=>match Bs.find? fun e=>e.ks==i with
  |some e=>(∀ w,cI w0 w→cV ops (bP ops o) w (fun a'=>∀ b,a'.tmps[e.s]? =some (.pointer (some ⟨b,0,none⟩))→Av w b e.t e.Z→∃ w',(execOp a'.eval o).run P w= .ok .skip w'∧Av w' b e.t e.C∧Fr (fun k=>k=b) w w') (BL Bs) a)∧o.dst=none∧oK P ops w0 Bs Q (i+1) rest a
  |none=>match Bs.find? fun e=>e.ka==i with
   |some e=>(∀ (ρ:Operand→Value) w,(execOp ρ o).run P w= .ok (.value (.pointer (some ⟨w.heap.size,0,none⟩))) (w.alloc (.cells e.Z.toArray e.t (0,0))))∧oK P ops w0 Bs Q (i+1) rest a
   |none=>∃ c,(∀ w,cI w0 w→cV ops (bP ops o) w (fun a'=>dZ P ops cI o a' w (fun v _=>v=c)) (BL Bs) a)∧oK P ops w0 Bs Q (i+1) rest (a.put o.dst c)
variable {i:Nat} {o:Oper} {rest:List Oper} {l l':List Value} {d:List Deferred}
theorem bC (hL:spc Bs i=false) (hD:((BL Bs).all fun p=>!bP ops o p.1)=true) (hw:vJ ops o l=some true) {t:Nat} (ht:o.dst=some t) {c:Value}
  (h:∀ w,cI w0 w→pD P cI w (fun v _=>v=c) ((execOp (Act.eval ⟨l.toArray,d⟩) o).run P w)) (hl:l.set t c=l') (k:oK P ops w0 Bs Q (i+1) rest ⟨l'.toArray,d⟩):oK P ops w0 Bs Q i (o :: rest) ⟨l.toArray,d⟩:=by
 subst hl
 unfold oK
 rw[Bh hL,Bi hL]
 refine⟨c,fun w hR=>aM hD ?_,?_⟩
 ·unfold dZ
  rw[if_pos (iO hw)]
  exact h w hR
 ·rw[ht,pF]
  exact k
theorem iY {w:World} {o:Oper} {ρ:Operand→Value} {b:Nat} {t:TypeId} {Z C:List Value} (h0:Av w b t Z) (hz:Z.length=C.length) (ty:TypeId) (x y:Operand) (ho:o.op= .store ty x y) (hx:ρ x= .pointer (some ⟨b,0,none⟩)) (hy:ρ y= .agg C.toArray) (n:Nat) (hn:C.length=n)
  (hi:(P.info? ty).map (·.size)=some n) (h1:C.all (·.oneCell')=true):∃ w',(execOp ρ o).run P w= .ok .skip w'∧Av w' b t C∧Fr (fun k=>k=b) w w':=by
 have hset:=setRow_heap w b Z.toArray C.toArray t (0,0) h0
 refine⟨w.setRow b C.toArray,?_,hset,⟨rfl,rfl,rfl,by simp,fun k _ hk=>setRow_other _ _ _ _ hk⟩⟩
 unfold execOp
 simp only[ho,hx,hy,Instr.storeAt,Instr.sureAddr,Sem.run_bind,Sem.run_pure,Result.andThen_ok,run_storeVar_row w b t ty Z.toArray C.toArray h0 (by rw[List.size_toArray,hn];exact hi) (by rw[List.size_toArray,List.size_toArray,hz]) (by simpa using h1)]
end
end Go.Proofs.YtobjgebojhjhnaaGreatDoor
