import Derived.Test.YtobjgebojhjhnaaGreatDoorQr5
namespace Go.Proofs.YtobjgebojhjhnaaGreatDoor
open Go.RowKit
structure oL where
 b:Nat
 t:TypeId
 ks:List Nat
 C:(Nat→Bool)→List Value
def oL.one (b:Nat) (t:TypeId) (k:Nat) (Z C:List Value):oL:=⟨b,t,[k],fun f=>if f k=true then C else Z⟩
def JO (Os:List oL) (listed:Array Bool) (w:World):Prop:=∀ e ∈ Os,Av w e.b e.t (e.C fun k=>listed.getD k false)
def Fo (Os:List oL) (w0 w:World):Prop:=Fr (fun k=>∃ e ∈ Os,e.b=k) w0 w
theorem Md {B:Nat} {a b:World} (h:Below B a.drew b):Below B a b:=⟨h.os,h.tape,h.output,h.size,h.block⟩
theorem Fo.av {Os:List oL} {w0 w:World} (h:Fo Os w0.drew w) {g:Nat} {t:TypeId} {l:List Value} (ha:Av w0 g t l) (hg:∀ e ∈ Os,e.b≠g):Av w g t l:=Fr.av h ha.drew (fun ⟨e,he,hb⟩=>hg e he hb)
theorem Fo.nil {w0 w:World} (h:Fo [] w0.drew w):Below w0.heap.size w0 w:=cI.drew (Fr.b h (fun k ⟨e,he,_⟩=>by cases he) LR)
theorem Fo.low {Os:List oL} {w0 w:World} (h:Fo Os w0.drew w) {B:Nat} (hB:B≤w0.heap.size) (hb:∀ e ∈ Os,B≤e.b):Below B w0 w:=Md (Fr.b h (fun k ⟨e,he,hk⟩=>by rw[← hk];exact hb e he) hB)
def El (Bs:List sN) (Os:List oL) (i:Nat):Bool:=spc Bs i || Os.any fun e=>e.ks.contains i
theorem Bn {Bs:List sN} {Os:List oL} {i:Nat} (h:El Bs Os i=false):spc Bs i=false:=(Bool.or_eq_false_iff.1 h).1
theorem FR {Bs:List sN} {Os:List oL} {i:Nat} (h:El Bs Os i=false):(Os.find? fun e=>e.ks.contains i)=none:=by
 rw[List.find?_eq_none]
 intro e he hi
 have:=List.any_eq_false.1 (Bool.or_eq_false_iff.1 h).2 e he
 exact this hi
def Rt (ops:Array Oper) (Bs:List sN) (Os:List oL):Bool:=
 Os.all fun e=>e.ks.all fun k=>!spc Bs k && (match ops[k]? with|some o=>o.guard.isNone && o.dst.isNone|none=>false) && ((Os.filter fun f=>f.ks.contains k).length==1)
structure Bo (ops:Array Oper) (w0:World) (Bs:List sN) (Os:List oL):Prop where
 spc:∀ e ∈ Os,∀ k ∈ e.ks,spc Bs k=false
 op:∀ e ∈ Os,∀ k ∈ e.ks,∀ o,ops[k]? =some o→o.guard=none∧o.dst=none
 one:∀ e ∈ Os,∀ f ∈ Os,∀ k,k ∈ e.ks→k ∈ f.ks→e=f
 ne:∀ e ∈ Os,∀ f ∈ Os,e.b=f.b→e=f
 con:∀ e ∈ Os,∀ f g:Nat→Bool,(∀ k ∈ e.ks,f k=g k)→e.C f=e.C g
 lt:∀ e ∈ Os,e.b<w0.heap.size
theorem uP {α:Type} {p:α→Bool}:∀ {l:List α},(l.filter p).length=1→ ∀ {x y:α},x ∈ l→y ∈ l→p x=true→p y=true→x=y:=by
 intro l h x y hx hy px py
 have h1:x ∈ l.filter p:=List.mem_filter.2 ⟨hx,px⟩
 have h2:y ∈ l.filter p:=List.mem_filter.2 ⟨hy,py⟩
 match hf:l.filter p,h with
 | [z],_=>rw[hf] at h1 h2;simp at h1 h2;rw[h1,h2]
theorem uZ {α:Type} {p:α→Nat}:∀ {l:List α},(l.Pairwise fun e f=>p e≠p f)→ ∀ e ∈ l,∀ f ∈ l,p e=p f→e=f
 | [],_,e,he,_,_,_=>by cases he
 |a :: l,h,e,he,f,hf,q=>by
  rw[List.pairwise_cons] at h
  rcases List.mem_cons.1 he with rfl|he' <;> rcases List.mem_cons.1 hf with rfl|hf'
  ·rfl
  ·exact absurd q (h.1 f hf')
  ·exact absurd q.symm (h.1 e he')
  ·exact uZ h.2 e he' f hf' q
theorem GM {ops:Array Oper} {w:World} {Bs:List sN} {Os:List oL} (h:Rt ops Bs Os=true) (hC:∀ e ∈ Os,∀ f g:Nat→Bool,(∀ k ∈ e.ks,f k=g k)→e.C f=e.C g) (hne:Os.Pairwise fun e f=>e.b≠f.b) (h0:∀ e ∈ Os,Av w e.b e.t (e.C fun _=>false)):Bo ops w.drew Bs Os:=by
 unfold Rt at h
 simp only[Bool.and_eq_true,List.all_eq_true,Bool.not_eq_true',beq_iff_eq] at h
 refine⟨fun e he k hk=>(h e he k hk).1.1,fun e he k hk o ho=>?_,fun e he f hf k hk hk'=>?_,uZ hne,hC,fun e he=>(h0 e he).lt⟩
 ·have:=(h e he k hk).1.2
  rw[ho] at this
  simpa using this
 ·exact uP (h e he k hk).2 he hf (by simpa using hk) (by simpa using hk')
section
variable {P:Program} {ops:Array Oper} {Q:Exit→Act→World→Prop} {w0:World} {Bs:List sN} {Os:List oL}
theorem JB.fr {H0 i:Nat} {listed:Array Bool} {tm:Array Value} {w w':World} (h:JB H0 Bs listed tm w) (hi:∀ e ∈ Bs,e.ka≠i∧e.ks≠i) {b:Nat} (hF:Fr (fun k=>k=b) w w') (hb:b<H0):JB H0 Bs (listed.setIfInBounds i true) tm w':=by
 refine Xm158 ?_;intro k1 k2
 refine⟨fun e he hl=>?_,fun e he f hf hs h1 h2 b hb=>?_⟩
 ·rw[k1 e he] at hl
  obtain⟨c,p,q,r⟩:=h.at_ e he hl
  exact⟨c,p,q,by rw[k2 e he];exact hF.av r OM⟩
 ·rw[k1 e he] at h1
  rw[k1 f hf] at h2
  exact h.ne e he f hf hs h1 h2 b hb
theorem JO.same {i:Nat} {listed:Array Bool} {w w':World} (h:JO Os listed w) (G:Bo ops w0 Bs Os) (hi:∀ e ∈ Os,i ∉ e.ks) (hw:∀ e ∈ Os,∀ C,Av w e.b e.t C→Av w' e.b e.t C):JO Os (listed.setIfInBounds i true) w':=by
 intro e he
 rw[G.con e he _ (fun k=>listed.getD k false) fun k hk=>getD_set_ne false (fun q=>hi e he (by rw[q];exact hk))]
 exact hw e he _ (h e he)
theorem JO.store {i:Nat} {listed:Array Bool} {w w':World} (h:JO Os listed w) (G:Bo ops w0 Bs Os) {e:oL} (he:e ∈ Os) (hi:i ∈ e.ks) (hl:i<listed.size) (hA:Av w' e.b e.t (e.C fun k=>k==i || listed.getD k false)) (hF:Fr (fun k=>k=e.b) w w'):JO Os (listed.setIfInBounds i true) w':=by
 intro f hf
 by_cases hn:f=e
 ·subst hn
  have:(fun k=>(listed.setIfInBounds i true).getD k false)=fun k=>k==i || listed.getD k false:=by
   funext k
   by_cases hk:i=k
   ·subst hk
    rw[Array.getD_eq_getD_getElem?,Array.getElem?_setIfInBounds_self_of_lt hl]
    simp
   ·rw[getD_set_ne false hk]
    have:(k==i)=false:=by simpa using Ne.symm hk
    rw[this,Bool.false_or]
  rw[this]
  exact hA
 ·rw[G.con f hf _ (fun k=>listed.getD k false) fun k hk=>getD_set_ne false (fun q=>hn (G.one f hf e he i (by rw[q];exact hk) hi))]
  exact hF.av (h f hf) (fun q=>hn (G.ne f hf e he q))
theorem Qd {w w':World} (h:Fo Os w0 w) {b:Nat} (hF:Fr (fun k=>k=b) w w') (hb:w0.heap.size≤b):Fo Os w0 w':=
 ⟨hF.os.trans h.os,hF.tape.trans h.tape,hF.output.trans h.output,Nat.le_trans h.size hF.size,fun k hk hs=>(hF.block k (Nat.lt_of_lt_of_le hk h.size) OM).trans (h.block k hk hs)⟩
theorem NH {w w':World} (h:Fo Os w0 w) (hE:cI w w'):Fo Os w0 w':=Fr.trans h (Below.fr hE)
theorem Me {w:World} (h:Fo Os w0 w) (o:Obj):Fo Os w0 (w.alloc o):=NH h ((Below.refl _ _).alloc LR _)
theorem Ox {w:World} (h:Fo Os w0 w):w0.heap.size≤w.heap.size:=h.size
theorem Qe {w w':World} (h:Fo Os w0 w) {e:oL} (hF:Fr (fun k=>k=e.b) w w') (he:e ∈ Os):Fo Os w0 w':=Fr.trans h (Fr.weaken hF fun _ _ hk=>⟨e,he,hk.symm⟩)
theorem Oy {e:sN} (he:e ∈ Bs) {i:Nat} (h:e.ks=i):spc Bs i=true:=List.any_eq_true.2 ⟨e,he,by simp[h]⟩
theorem Oz {e:sN} (he:e ∈ Bs) {i:Nat} (h:e.ka=i):spc Bs i=true:=List.any_eq_true.2 ⟨e,he,by simp[h]⟩
def JN (ops:Array Oper) (Os:List oL) (i:Nat) (w:World):Prop:=∀ e ∈ Os,∃ f:Nat→Bool,(∀ k o,ops[k]? =some o→kK o i=true→f k=false)∧Av w e.b e.t (e.C f)
def OA (P:Program) (ops:Array Oper) (w0:World) (Bs:List sN) (Os:List oL) (c:Nat→Value) (j:Nat) (o:Oper) (a:Act):Prop:=
 match Bs.find? fun e=>e.ks==j with
 |some e=>∀ w,Fo Os w0 w→cV ops (bP ops o) w (fun a'=>∀ b,a'.tmps[e.s]? =some (.pointer (some ⟨b,0,none⟩))→Av w b e.t e.Z→∃ w',(execOp a'.eval o).run P w= .ok .skip w'∧Av w' b e.t e.C∧Fr (fun k=>k=b) w w') (BL Bs) a
 |none=>match Bs.find? fun e=>e.ka==j with
  |some e=>∀ (ρ:Operand→Value) w,(execOp ρ o).run P w= .ok (.value (.pointer (some ⟨w.heap.size,0,none⟩))) (w.alloc (.cells e.Z.toArray e.t (0,0)))
  |none=>match Os.find? fun e=>e.ks.contains j with
   |some e=>∀ w,Fo Os w0 w→cV ops (bP ops o) w (fun a'=>∀ f:Nat→Bool,f j=false→Av w e.b e.t (e.C f)→∃ w',(execOp a'.eval o).run P w= .ok .skip w'∧Av w' e.b e.t (e.C fun k=>k==j || f k)∧Fr (fun k=>k=e.b) w w') (BL Bs) a
   |none=>∀ w,Fo Os w0 w→JN ops Os j w→cV ops (bP ops o) w (fun a'=>dZ P ops cI o a' w (fun u _=>u=c j)) (BL Bs) a
def cN (P:Program) (ops:Array Oper) (w0:World) (Bs:List sN) (Os:List oL) (Q:Exit→Act→World→Prop):Nat→List Oper→Act→Prop
 |_,[],a=>∀ w,Fo Os w0 w→cV ops (fun _=>true) w (fun a'=>Q .normal a' w) (BL Bs) a
 |i,o :: rest,a=>match Bs.find? fun e=>e.ks==i with
  |some e=>(∀ w,Fo Os w0 w→cV ops (bP ops o) w (fun a'=>∀ b,a'.tmps[e.s]? =some (.pointer (some ⟨b,0,none⟩))→Av w b e.t e.Z→∃ w',(execOp a'.eval o).run P w= .ok .skip w'∧Av w' b e.t e.C∧Fr (fun k=>k=b) w w') (BL Bs) a)∧o.dst=none∧cN P ops w0 Bs Os Q (i+1) rest a
  |none=>match Bs.find? fun e=>e.ka==i with
   |some e=>(∀ (ρ:Operand→Value) w,(execOp ρ o).run P w= .ok (.value (.pointer (some ⟨w.heap.size,0,none⟩))) (w.alloc (.cells e.Z.toArray e.t (0,0))))∧cN P ops w0 Bs Os Q (i+1) rest a
   |none=>match Os.find? fun e=>e.ks.contains i with
    |some e=>(∀ w,Fo Os w0 w→cV ops (bP ops o) w (fun a'=>∀ f:Nat→Bool,f i=false→Av w e.b e.t (e.C f)→∃ w',(execOp a'.eval o).run P w= .ok .skip w'∧Av w' e.b e.t (e.C fun k=>k==i || f k)∧Fr (fun k=>k=e.b) w w') (BL Bs) a)∧o.dst=none∧cN P ops w0 Bs Os Q (i+1) rest a
    |none=>∃ c,(∀ w,Fo Os w0 w→JN ops Os i w→cV ops (bP ops o) w (fun a'=>dZ P ops cI o a' w (fun v _=>v=c)) (BL Bs) a)∧cN P ops w0 Bs Os Q (i+1) rest (a.put o.dst c)
theorem yS (F:Bj ops ops.size Bs) (a0:Act):∀ (rest:List Oper) (i:Nat) (a:Act),(∀ k,k<rest.length→rest[k]? =ops[i+k]?)→cN P ops w0 Bs Os Q i rest a→ ∀ c0:Nat→Value,a=cf ops (BL Bs) c0 a0 i→
  ∃ c:Nat→Value,(∀ j,j<i→c j=c0 j)∧(∀ j o,i≤j→j<i+rest.length→ops[j]? =some o→OA P ops w0 Bs Os c j o (cf ops (BL Bs) c a0 j))∧
   (∀ w,Fo Os w0 w→cV ops (fun _=>true) w (fun a'=>Q .normal a' w) (BL Bs) (cf ops (BL Bs) c a0 (i+rest.length))):=by
 have congr:∀ (c d:Nat→Value) (i:Nat),(∀ j,j<i→c j=d j)→cf ops (BL Bs) c a0 i=cf ops (BL Bs) d a0 i:=by
  exact Xc131
 intro rest
 induction rest with
 |nil=>
  intro i a hr h c0 ha
  subst ha
  exact⟨c0,fun _ _=>rfl,fun j o hj hj2 ho=>by simp at hj2;omega,fun w hw=>h w hw⟩
 |cons o rest ih=>
  refine Xm93 ?_;intro i a hr h c0 ha ho hr' hd
  unfold cN at h
  have same:∀ (c:Nat→Value),(∀ j,j<i→c j=c0 j)→cf ops (BL Bs) c a0 i=a:=fun c hc=>(congr c c0 i hc).trans ha.symm
  have shift:∀ (c:Nat→Value),cf ops (BL Bs) c a0 (i+1+rest.length)=cf ops (BL Bs) c a0 (i+(o :: rest).length):=fun c=>by rw[List.length_cons,show i+(rest.length+1)=i+1+rest.length by omega]
  cases hk:Bs.find? (fun e=>e.ks==i) with
  |some e=>
   rw[hk] at h
   obtain⟨h1,h2,h3⟩:=h
   have heB:=List.mem_of_find?_eq_some hk
   have hei:e.ks=i:=by simpa using List.find?_some hk
   have hl:(BL Bs).lookup i=none:=Bl fun f hf q=>F.cross f hf e heB OM
   obtain⟨c,hc,hob,hfin⟩:=ih (i+1) _ hr' h3 c0 (by
    simp only[cf,hl,hd,h2]
    exact ha)
   refine⟨c,fun j hj=>hc j OM,fun j o' hj hj2 ho'=>?_,by rw[← shift];exact hfin⟩
   by_cases hji:j=i
   ·subst hji
    rw[ho] at ho'
    injection ho' with ho'
    subst ho'
    unfold OA
    rw[hk,same c fun k hk=>hc k OM]
    exact h1
   ·exact Xc100
  |none=>
   rw[hk] at h
   dsimp only at h
   cases hq:Bs.find? (fun e=>e.ka==i) with
   |some e=>
    rw[hq] at h
    obtain⟨h1,h3⟩:=h
    have heB:=List.mem_of_find?_eq_some hq
    have hei:e.ka=i:=by simpa using List.find?_some hq
    obtain⟨phi,hl⟩:∃ phi,(BL Bs).lookup i=some phi:=Option.ne_none_iff_exists'.1 (by rw[← hei];exact uO heB)
    obtain⟨c,hc,hob,hfin⟩:=ih (i+1) _ hr' h3 c0 (by
     simp only[cf,hl]
     exact ha)
    refine⟨c,fun j hj=>hc j OM,fun j o' hj hj2 ho'=>?_,by rw[← shift];exact hfin⟩
    by_cases hji:j=i
    ·subst hji
     rw[ho] at ho'
     injection ho' with ho'
     subst ho'
     unfold OA
     rw[hk,hq]
     exact h1
    ·exact Xc100
   |none=>
    rw[hq] at h
    dsimp only at h
    have hl:(BL Bs).lookup i=none:=Bl fun f hf q=>by
     have:=List.find?_eq_none.1 hq f hf
     simp[q] at this
    cases hz:Os.find? (fun e=>e.ks.contains i) with
    |some e=>
     rw[hz] at h
     obtain⟨h1,h2,h3⟩:=h
     obtain⟨c,hc,hob,hfin⟩:=ih (i+1) _ hr' h3 c0 (by
      simp only[cf,hl,hd,h2]
      exact ha)
     refine⟨c,fun j hj=>hc j OM,fun j o' hj hj2 ho'=>?_,by rw[← shift];exact hfin⟩
     by_cases hji:j=i
     ·subst hji
      rw[ho] at ho'
      injection ho' with ho'
      subst ho'
      unfold OA
      rw[hk,hq,hz]
      dsimp only
      rw[same c fun k hk=>hc k OM]
      exact h1
     ·exact Xc100
    |none=>
     rw[hz] at h
     obtain⟨v,h1,h3⟩:=h
     have e1:cf ops (BL Bs) (fun j=>if j=i then v else c0 j) a0 i=cf ops (BL Bs) c0 a0 i:=congr _ _ _ fun j hj=>if_neg OM
     obtain⟨c,hc,hob,hfin⟩:=ih (i+1) _ hr' h3 (fun j=>if j=i then v else c0 j) (by
      simp only[cf,hl,if_pos,hd]
      rw[e1,← ha])
     have hcv:c i=v:=(hc i OM).trans (if_pos rfl)
     refine⟨c,fun j hj=>(hc j OM).trans (if_neg OM),fun j o' hj hj2 ho'=>?_,by rw[← shift];exact hfin⟩
     by_cases hji:j=i
     ·subst hji
      rw[ho] at ho'
      injection ho' with ho'
      subst ho'
      unfold OA
      rw[hk,hq,hz]
      dsimp only
      rw[same c fun k hk=>(hc k OM).trans (if_neg OM),hcv]
      exact h1
     ·exact Xc100
theorem Xm81 {p q:Prop} (k:q) (h:Hid q→p:=by
 intro hk
 have hev:execOp (gM ops (bP ops o) (fun j=>a.tmps.getD ((bG ops j).getD 0) undef) (BL Bs) (cf ops (BL Bs) c a0 i)).eval o=execOp a.eval o:=execOp_congr o hsel fun x hx=>by
  cases x with
  |tmp t=>
   have ht:t ∈ o.looksAt ops:=List.mem_append_left _ (List.mem_filterMap.2 ⟨.tmp t,by simpa using hx,rfl⟩)
   simp only[Act.eval,Array.getD_eq_getD_getElem?,hag t ht]
  |const v=>rfl
  |global g=>rfl
  |func f=>rfl
 rw[hev] at hr
 have hw:Region.wanted o (yielded ops a.tmps)=true:=by
  unfold Region.wanted
  rw[g0]
 rw[if_pos hw]
 refine .inl ?_
 unfold Oper.wp
 rw[hr]
 revert hr hev hw;exact hk.out):p:=h (Hy k)
theorem Jf {c:Nat→Value} {a0:Act} (hB:sI ops ((BL Bs).map (·.1))=true) (hrange:∀ j t,bG ops j=some t→t<a0.tmps.size)
  (hob:∀ j o,ops[j]? =some o→OA P ops w0 Bs Os c j o (cf ops (BL Bs) c a0 j))
  (hW:QX ops ops.size Bs=true) (G:Bo ops w0 Bs Os)
  (hfin:∀ w,Fo Os w0 w→cV ops (fun _=>true) w (fun a'=>JB w0.heap.size Bs (Array.replicate ops.size true) a'.tmps w→JO Os (Array.replicate ops.size true) w→Q .normal a' w) (BL Bs) (cf ops (BL Bs) c a0 ops.size)):
  ∀ (fuel:Nat) (listed:Array Bool) (a:Act) (w:World) (U:List Nat),U.length≤fuel→(∀ i,i<ops.size→listed.getD i false=false→i ∈ U)→nQ ops (Fo Os) w0 (BL Bs) c a0 listed a w→JB w0.heap.size Bs listed a.tmps w→JO Os listed w→wpAny P .any ops Q fuel listed a w:=by
 obtain⟨hB1,hnd,hks⟩:=rC hB
 have F:=Aa hW
 have huniq:∀ j t,bG ops j=some t→ ∀ k,k≠j→bG ops k≠some t:=by
  intro j t hj k hk
  cases ho:ops[j]? with
  |none=>simp[bG,ho] at hj
  |some o=>exact(hB1 j o ho).2.2.1 k t (by simpa [bG,ho] using hj) hk
 have hlt:∀ j t,bG ops j=some t→j<ops.size:=by
  intro j t hj
  exact Xc152
 have theEnd:∀ (listed:Array Bool) (a:Act) (w:World),nQ ops (Fo Os) w0 (BL Bs) c a0 listed a w→JB w0.heap.size Bs listed a.tmps w→JO Os listed w→(∀ i,i<ops.size→listed.getD i false=true)→Q .normal a w:=by
  intro listed a w hI hX hY hall
  have hrep:listed=Array.replicate ops.size true:=by
   refine Array.ext (by simp[hI.lsize]) fun i h1 h2=>?_
   have:=hall i (by rw[← hI.lsize];exact h1)
   rw[Array.getD_eq_getD_getElem?,Array.getElem?_eq_getElem h1] at this
   simpa using this
  have h1:=iN (fun j=>a.tmps.getD ((bG ops j).getD 0) undef) (BL Bs) _ (hfin w hI.ext) (fun p hp _=>nZ hnd hrange hks hI p hp (hall _ (hks _ (List.mem_map.2 ⟨p,hp,rfl⟩)).1))
  have e:gM ops (fun _=>true) (fun j=>a.tmps.getD ((bG ops j).getD 0) undef) (BL Bs) (cf ops (BL Bs) c a0 ops.size)=a:=by
   have hd:(gM ops (fun _=>true) (fun j=>a.tmps.getD ((bG ops j).getD 0) undef) (BL Bs) (cf ops (BL Bs) c a0 ops.size)).defers=a.defers:=by
    rw[jX,uK,hI.defers]
   have ht:(gM ops (fun _=>true) (fun j=>a.tmps.getD ((bG ops j).getD 0) undef) (BL Bs) (cf ops (BL Bs) c a0 ops.size)).tmps=a.tmps:=
    Array.ext_getElem? fun t=>nY hnd hrange huniq hI (fun _=>true) ops.size t fun j hj=>.inl ⟨hall j (hlt j t hj),hlt j t hj,rfl⟩
   cases hx:gM ops (fun _=>true) (fun j=>a.tmps.getD ((bG ops j).getD 0) undef) (BL Bs) (cf ops (BL Bs) c a0 ops.size)
   rw[hx] at hd ht
   cases a
   simp_all
  rw[e] at h1
  rw[hrep] at hX hY
  exact h1 hX hY
 have noReady:∀ (listed:Array Bool),listed.size=ops.size→Region.ready .any ops listed= []→ ∀ i,i<ops.size→listed.getD i false=true:=by
  intro listed hsz hr i
  induction i using Nat.strongRecOn with
  |ind i ih=>
   intro hi
   cases hl:listed.getD i false with
   |true=>rfl
   |false=>
    have:i ∈ Region.ready .any ops listed:=by
     rw[mem_ready]
     refine⟨?_,ops[i],Array.getElem?_eq_getElem hi,fun e he hb=>?_⟩
     ·rw[Array.getD_eq_getD_getElem?] at hl ⊢
      rw[Array.getElem?_eq_getElem OM] at hl ⊢
      exact hl
     ·have:=(hB1 i _ (Array.getElem?_eq_getElem hi)).2.1 e he hb
      exact ih e.on this OM
    rw[hr] at this
    cases this
 intro fuel
 induction fuel with
 |zero=>
  intro listed a w U hU hin hI hX hY
  have hall:∀ i,i<ops.size→listed.getD i false=true:=by
   intro i hi
   cases hl:listed.getD i false with
   |true=>rfl
   |false=>
    have:=hin i hi hl
    have hU0:U= []:=List.eq_nil_of_length_eq_zero OM
    rw[hU0] at this
    cases this
  refine⟨?_,theEnd listed a w hI hX hY hall⟩
  exact Xc144
 |succ fuel ih=>
  intro listed a w U hU hin hI hX hY
  refine⟨fun hr=>theEnd listed a w hI hX hY (noReady listed hI.lsize hr),fun i hi=>?_⟩
  rw[mem_ready] at hi
  obtain⟨h0,o,ho,hall⟩:=hi
  have hiu:=eN h0
  have hilt:=(Array.getElem?_eq_some_iff.1 ho).1
  obtain⟨hsel,hearly,_,hlooks⟩:=hB1 i o ho
  have hdst:bG ops i=o.dst:=by simp[bG,ho]
  have hag:∀ t ∈ o.looksAt ops,a.tmps[t]? =(gM ops (bP ops o) (fun j=>a.tmps.getD ((bG ops j).getD 0) undef) (BL Bs) (cf ops (BL Bs) c a0 i)).tmps[t]? :=by
   intro t ht
   symm
   exact Xc39
  have next:∀ v w',Fo Os w0 w'→JB w0.heap.size Bs (listed.setIfInBounds i true) (a.put o.dst v).tmps w'→JO Os (listed.setIfInBounds i true) w'→((BL Bs).lookup i=none→o.dst≠none→v=c i)→wpAny P .any ops Q fuel (listed.setIfInBounds i true) (a.put o.dst v) w':=by
   intro v w' hR hXn hYn hok
   have hset:∀ j,(listed.setIfInBounds i true).getD j false=true→listed.getD j false=true∨j=i:=by
    exact Xc118
   refine ih _ _ _ (U.erase i) ?_ ?_ ⟨by simp[hI.lsize],by rw[gG,hI.size],by rw[kO,hI.defers],hR,?_,?_,?_,?_⟩ hXn hYn
   ·have:=List.length_erase_of_mem (hin i hilt hiu)
    omega
   ·exact Xc120
   ·exact Xc70
   ·intro j t hj ht hjl hlk
    by_cases hji:j=i
    ·subst hji
     rw[hdst] at hj
     rw[hj,eE _ _ _ (by rw[hI.size];exact ht)]
     exact congrArg some (hok hlk (by rw[hj];simp))
    ·exact Xc92
   ·intro j t phi hj ht hjl hlk
    by_cases hji:j=i
    ·subst hji
     rw[hdst] at hj
     rw[hj,eE _ _ _ (by rw[hI.size];exact ht)]
     exact⟨v,rfl,FQ hlk v w'⟩
    ·rw[gH _ _ _ _ (fun e=>huniq j t hj i (Ne.symm hji) (hdst.trans e))]
     obtain⟨u,hu,hphi⟩:=hI.word j t phi hj ht ((hset j hjl).resolve_right hji) hlk
     exact⟨u,hu,FQ hlk u w'⟩
   ·exact Xc44
  have hobi:=hob i o ho
  unfold OA at hobi
  unfold wpOp
  rw[ho]
  dsimp only
  cases hks2:Bs.find? (fun e=>e.ks==i) with
  |some e=>
   rw[hks2] at hobi
   dsimp only at hobi
   have heB:=List.mem_of_find?_eq_some hks2
   have hei:e.ks=i:=by simpa using List.find?_some hks2
   obtain⟨g0,d0,dep,hlook⟩:=F.sto e heB (by rw[hei];exact hilt) o (by rw[hei];exact ho)
   have hkal:listed.getD e.ka false=true:=by
    obtain⟨x,hx,hb,hon⟩:=fR dep
    have:=hall x hx hb
    rwa [hon] at this
   obtain⟨b,hb1,hb2,hb3⟩:=hX.at_ e heB hkal
   rw[hei,hiu,if_neg zS] at hb3
   have h1:=iN (fun j=>a.tmps.getD ((bG ops j).getD 0) undef) (BL Bs) _ (hobi w hI.ext) (fun p hp _=>Bm (fun j=>a.tmps.getD ((bG ops j).getD 0) undef) w p hp)
   obtain⟨w',hr,hA,hFr⟩:=h1 b (by rw[← hag e.s hlook];exact hb1) hb3
   refine Xm81 ?_;try clear hr;intro hr hev hw
   refine next undef w' (Qd hI.ext hFr hb2) ?_ (hY.same G (fun f hf hk=>by have:=G.spc f hf i hk;rw[Oy heB hei] at this;cases this) (fun f hf C hC=>hFr.av hC (fun q=>by have:=G.lt f hf;omega))) (fun _ hd=>absurd d0 hd)
   have:(a.put o.dst undef).tmps=a.tmps:=by rw[d0];rfl
   rw[this]
   exact hX.store F heB hei (by rw[hI.lsize];exact hilt) hilt hkal hb1 hA hFr
  |none=>
   rw[hks2] at hobi
   dsimp only at hobi
   have hnk:∀ f ∈ Bs,f.ks≠i:=fun f hf q=>by
    have:=List.find?_eq_none.1 hks2 f hf
    simp[q] at this
   cases hka2:Bs.find? (fun e=>e.ka==i) with
   |some e=>
    rw[hka2] at hobi
    dsimp only at hobi
    have heB:=List.mem_of_find?_eq_some hka2
    have hei:e.ka=i:=by simpa using List.find?_some hka2
    have hde:o.dst=some e.s:=by
     have:=F.dst e heB
     rw[hei,hdst] at this
     exact this
    have hw:Region.wanted o (yielded ops a.tmps)=true:=by
     unfold Region.wanted
     rw[F.grd e heB o (by rw[hei];exact ho)]
    rw[if_pos hw]
    refine .inl ?_
    unfold Oper.wp
    rw[hobi a.eval w]
    have hno:listed.getD e.ks false=false:=by
     rcases Nat.lt_or_ge e.ks ops.size with hlt2|hge
     ·cases hl2:listed.getD e.ks false with
      |false=>rfl
      |true=>
       have ho2:=Array.getElem?_eq_getElem hlt2
       obtain⟨_,_,dep,_⟩:=F.sto e heB hlt2 _ ho2
       obtain⟨x,hx,hb,hon⟩:=fR dep
       have:=hI.shut e.ks _ ho2 hl2 x hx hb
       rw[hon,hei,hiu] at this
       cases this
     ·rw[Array.getD_eq_getD_getElem?,Array.getElem?_eq_none (by rw[hI.lsize];exact hge)]
      rfl
    refine next _ _ (Me hI.ext _) ?_ (hY.same G (fun f hf hk=>by have:=G.spc f hf i hk;rw[Oz heB hei] at this;cases this) (fun f hf C hC=>hC.alloc _)) (fun hl2 _=>absurd hl2 (by rw[← hei];exact uO heB))
    rw[hde]
    exact hX.alloc F heB hei hno (by rw[hI.lsize];exact hilt) (by rw[hI.size];exact hrange i e.s (by rw[hdst];exact hde)) (Ox hI.ext)
   |none=>
    rw[hka2] at hobi
    dsimp only at hobi
    have hna:∀ f ∈ Bs,f.ka≠i:=fun f hf q=>by
     have:=List.find?_eq_none.1 hka2 f hf
     simp[q] at this
    cases hos2:Os.find? (fun e=>e.ks.contains i) with
    |some e=>
     rw[hos2] at hobi
     dsimp only at hobi
     have heO:=List.mem_of_find?_eq_some hos2
     have hei:i ∈ e.ks:=by simpa using List.find?_some hos2
     obtain⟨g0,d0⟩:=G.op e heO i hei o ho
     have h1:=iN (fun j=>a.tmps.getD ((bG ops j).getD 0) undef) (BL Bs) _ (hobi w hI.ext) (fun p hp _=>Bm (fun j=>a.tmps.getD ((bG ops j).getD 0) undef) w p hp)
     obtain⟨w',hr,hA,hFr⟩:=h1 (fun k=>listed.getD k false) hiu (hY e heO)
     refine Xm81 ?_;try clear hr;intro hr hev hw
     have ht:(a.put o.dst undef).tmps=a.tmps:=by rw[d0];rfl
     refine next undef w' (Qe hI.ext hFr heO) (by rw[ht];exact hX.fr (fun f hf=>⟨hna f hf,hnk f hf⟩) hFr (G.lt e heO)) (hY.store G heO hei (by rw[hI.lsize];exact hilt) hA hFr) (fun _ hd=>absurd d0 hd)
    |none=>
     rw[hos2] at hobi
     dsimp only at hobi
     have hfn:∀ k o',ops[k]? =some o'→kK o' i=true→listed.getD k false=false:=fun k o' hk hd=>by
      cases hl:listed.getD k false with
      |false=>rfl
      |true=>
       obtain⟨x,hx,hb,hon⟩:=fR hd
       have:=hI.shut k o' hk hl x hx hb
       rw[hon,hiu] at this
       cases this
     have hJN:JN ops Os i w:=fun e he=>⟨fun k=>listed.getD k false,hfn,hY e he⟩
     have hop:dZ P ops cI o a w (fun u _=>u=c i):=sJ hsel (fun t ht=>(hag t ht).symm) (iN (fun j=>a.tmps.getD ((bG ops j).getD 0) undef) (BL Bs) _ (hobi w hI.ext hJN) (fun p hp _=>Bm (fun j=>a.tmps.getD ((bG ops j).getD 0) undef) w p hp))
     have go:∀ v w',cI w w'→v=c i→wpAny P .any ops Q (fuel) (listed.setIfInBounds i true) (a.put o.dst v) w':=fun v w' h1 h2=>
      next v w' (NH hI.ext h1) (hX.normal (fun f hf=>⟨hna f hf,hnk f hf⟩) (fun f hf q=>huniq f.ka f.s (F.dst f hf) i (fun q=>hna f hf q.symm) (hdst.trans q)) h1 v) (hY.same G (fun f hf hk=>by have:=List.find?_eq_none.1 hos2 f hf;simp[hk] at this) (fun f hf C hC=>hC.b h1)) (fun _ _=>h2)
     unfold dZ at hop
     by_cases hw:Region.wanted o (yielded ops a.tmps)=true
     ·rw[if_pos hw] at hop ⊢
      refine .inl ?_
      unfold Oper.wp
      generalize (execOp a.eval o).run P w=r at hop ⊢
      cases r with
      |halt x w'=>exact hop.elim
      |ok nx w'=>
       cases nx with
       |value v=>exact go v w' hop.1 hop.2
       |skip=>exact go undef w' hop.1 hop.2
       |enter f args=>
        refine Calls.mono hop ?_
        rintro e w'' ⟨v,rfl,h1,h2⟩
        exact go v w'' h1 h2
       |_=>exact hop.elim
     ·rw[if_neg hw] at hop ⊢
      exact go undef w (cI.refl w) hop
theorem dG {id:Nat} {a:Act} {w:World} {l:List Oper} (Bs:List sN) (Os:List oL) (hm:P.follows .mixedOrders=true) (hB:sI l.toArray ((BL Bs).map (·.1))=true)
  (hrange:l.all (fun o=>match o.dst with|some d=>decide (d<a.tmps.size)|none=>true)=true)
  (hW:QX l.toArray l.toArray.size Bs=true) (hS:Rt l.toArray Bs Os=true) (hC:∀ e ∈ Os,∀ f g:Nat→Bool,(∀ k ∈ e.ks,f k=g k)→e.C f=e.C g) (hne:Os.Pairwise fun e f=>e.b≠f.b) (h0:∀ e ∈ Os,Av w e.b e.t (e.C fun _=>false))
  (h:cN P l.toArray w.drew Bs Os (fun x a' w'=>JB w.heap.size Bs (Array.replicate l.length true) a'.tmps w'→JO Os (Array.replicate l.length true) w'→Q x a' w') 0 l a):(Code.region id l.toArray true).wp P Q a w:=by
 obtain⟨c,_,hob,hfin⟩:=yS (Aa hW) a l 0 a (fun k=>by simp) h (fun _=>undef) rfl
 refine wp_region_any hm (Jf (c:=c) (a0:=a) hB (fun j t hj=>?_) (fun j o ho=>hob j o (Nat.zero_le _) (by have:=(Array.getElem?_eq_some_iff.1 ho).1;simpa using this) ho) hW (GM hS hC hne h0) (by simpa using hfin) l.toArray.size _ a _ (List.range l.toArray.size) zS (fun i hi _=>List.mem_range.2 hi) ?_ ?_ ?_)
 ·exact Xc62
 all_goals
  have hnone:∀ j,¬ (Array.replicate l.toArray.size false).getD j false=true:=by
   exact Xc135
 ·exact⟨by simp,rfl,rfl,Fr.refl _ _,fun i o _ hl=>absurd hl (hnone i),fun j t _ _ hl=>absurd hl (hnone j),fun j t phi _ _ hl=>absurd hl (hnone j),fun t _=>rfl⟩
 ·exact⟨fun e _ hl=>absurd hl (hnone e.ka),fun e _ f _ _ hl=>absurd hl (hnone e.ka)⟩
 ·intro e he
  have:(fun k=>(Array.replicate l.toArray.size false).getD k false)=fun _=>false:=by
   funext k
   have:=hnone k
   simpa using this
  rw[this]
  exact h0 e he
variable {i:Nat} {o:Oper} {rest:List Oper} {l l':List Value} {d:List Deferred}
theorem oC (hL:El Bs Os i=false) (hD:((BL Bs).all fun p=>!bP ops o p.1)=true) (hw:vJ ops o l=some true) {t:Nat} (ht:o.dst=some t) {c:Value}
  (h:∀ w,Fo Os w0 w→pD P cI w (fun v _=>v=c) ((execOp (Act.eval ⟨l.toArray,d⟩) o).run P w)) (hl:l.set t c=l') (k:cN P ops w0 Bs Os Q (i+1) rest ⟨l'.toArray,d⟩):cN P ops w0 Bs Os Q i (o :: rest) ⟨l.toArray,d⟩:=by
 subst hl
 unfold cN
 rw[Bh (Bn hL),Bi (Bn hL),FR hL]
 refine⟨c,fun w hR _=>aM hD ?_,?_⟩
 ·unfold dZ
  rw[if_pos (iO hw)]
  exact h w hR
 ·rw[ht,pF]
  exact k
theorem dK (hL:El Bs Os i=false) (hD:((BL Bs).all fun p=>!bP ops o p.1)=true) (hw:vJ ops o l=some true) {t:Nat} (ht:o.dst=some t) {c:Value}
  (h:∀ w,Fo Os w0 w→(execOp (Act.eval ⟨l.toArray,d⟩) o).run P w= .ok (.value c) w) (hl:l.set t c=l') (k:cN P ops w0 Bs Os Q (i+1) rest ⟨l'.toArray,d⟩):cN P ops w0 Bs Os Q i (o :: rest) ⟨l.toArray,d⟩:=
 oC hL hD hw ht (fun w hw'=>by rw[h w hw'];exact⟨cI.refl w,rfl⟩) hl k
theorem mT (hL:El Bs Os i=false) (hD:((BL Bs).all fun p=>!bP ops o p.1)=true) (hw:vJ ops o l=some true) {t:Nat} (ht:o.dst=some t) (x:Operand) (ho:o.op= .move x∨o.op= .assign x) {c:Value} (hc:FF l x=c)
  (hl:l.set t c=l') (k:cN P ops w0 Bs Os Q (i+1) rest ⟨l'.toArray,d⟩):cN P ops w0 Bs Os Q i (o :: rest) ⟨l.toArray,d⟩:=by
 refine dK hL hD hw ht (fun w _=>?_) hl k
 subst hc
 rw[← jG l d]
 rcases ho with ho|ho <;> (unfold execOp;rw[ho];rfl)
theorem jO (hL:El Bs Os i=false) (hD:((BL Bs).all fun p=>!bP ops o p.1)=true) (hw:vJ ops o l=some true) {t:Nat} (ht:o.dst=some t) {c:Value} (f:FuncId) (args:Array Value)
  (he:∀ w,(execOp (Act.eval ⟨l.toArray,d⟩) o).run P w= .ok (.enter f args) w)
  (h:∀ w,Fo Os w0 w→Calls P f args w fun e w'=>e= .returned c∧cI w w') (hl:l.set t c=l') (k:cN P ops w0 Bs Os Q (i+1) rest ⟨l'.toArray,d⟩):cN P ops w0 Bs Os Q i (o :: rest) ⟨l.toArray,d⟩:=
 oC hL hD hw ht (fun w hw'=>by
  rw[he w]
  exact(h w hw').mono fun e w' ⟨h1,h2⟩=>⟨c,h1,h2,rfl⟩) hl k
theorem OB (hL:El Bs Os i=false) (hD:((BL Bs).all fun p=>!bP ops o p.1)=true) (hw:vJ ops o l=some true) {t:Nat} (ht:o.dst=some t) {c:Value}
  (h:∀ w,Fo Os w0 w→JN ops Os i w→(execOp (Act.eval ⟨l.toArray,d⟩) o).run P w= .ok (.value c) w) (hl:l.set t c=l') (k:cN P ops w0 Bs Os Q (i+1) rest ⟨l'.toArray,d⟩):cN P ops w0 Bs Os Q i (o :: rest) ⟨l.toArray,d⟩:=by
 subst hl
 unfold cN
 rw[Bh (Bn hL),Bi (Bn hL),FR hL]
 refine⟨c,fun w hR hJ=>aM hD ?_,?_⟩
 ·unfold dZ
  rw[if_pos (iO hw),h w hR hJ]
  exact⟨cI.refl w,rfl⟩
 ·rw[ht,pF]
  exact k
theorem JN.one {i k b:Nat} {t:TypeId} {Z C:List Value} {w:World} (h:JN ops Os i w) (he:oL.one b t k Z C ∈ Os) {o:Oper} (ho:ops[k]? =some o) (hd:kK o i=true):Av w b t Z:=by
 obtain⟨f,hf,ha⟩:=h _ he
 have:=hf k o ho hd
 simpa [oL.one,this] using ha
theorem wM {i:Nat} {a:Act} (h:∀ w,Fo Os w0 w→cV ops (fun _=>true) w (fun a'=>Q .normal a' w) (BL Bs) a):cN P ops w0 Bs Os Q i [] a:=h
theorem mU {e:sN} {i:Nat} {o:Oper} {rest:List Oper} {a:Act} (hk:(Bs.find? fun e=>e.ks==i)=none) (ha:(Bs.find? fun e=>e.ka==i)=some e) (h:∀ (ρ:Operand→Value) w,(execOp ρ o).run P w= .ok (.value (.pointer (some ⟨w.heap.size,0,none⟩))) (w.alloc (.cells e.Z.toArray e.t (0,0)))) (k:cN P ops w0 Bs Os Q (i+1) rest a):cN P ops w0 Bs Os Q i (o :: rest) a:=by
 unfold cN
 rw[hk,ha]
 exact⟨h,k⟩
theorem mV {e:sN} {i:Nat} {o:Oper} {rest:List Oper} {a:Act} (hk:(Bs.find? fun e=>e.ks==i)=some e) (hd:o.dst=none) (h:∀ w,Fo Os w0 w→cV ops (bP ops o) w (fun a'=>∀ b,a'.tmps[e.s]? =some (.pointer (some ⟨b,0,none⟩))→Av w b e.t e.Z→∃ w',(execOp a'.eval o).run P w= .ok .skip w'∧Av w' b e.t e.C∧Fr (fun k=>k=b) w w') (BL Bs) a)
  (k:cN P ops w0 Bs Os Q (i+1) rest a):cN P ops w0 Bs Os Q i (o :: rest) a:=by
 unfold cN
 rw[hk]
 exact⟨h,hd,k⟩
theorem OC {e:oL} {i:Nat} {o:Oper} {rest:List Oper} {a:Act} (hk:(Bs.find? fun e=>e.ks==i)=none) (ha:(Bs.find? fun e=>e.ka==i)=none) (ho:(Os.find? fun e=>e.ks.contains i)=some e) (hd:o.dst=none) (h:∀ w,Fo Os w0 w→cV ops (bP ops o) w (fun a'=>∀ f:Nat→Bool,f i=false→Av w e.b e.t (e.C f)→∃ w',(execOp a'.eval o).run P w= .ok .skip w'∧Av w' e.b e.t (e.C fun k=>k==i || f k)∧Fr (fun k=>k=e.b) w w') (BL Bs) a)
  (k:cN P ops w0 Bs Os Q (i+1) rest a):cN P ops w0 Bs Os Q i (o :: rest) a:=by
 unfold cN
 rw[hk,ha,ho]
 exact⟨h,hd,k⟩
theorem oL.one_con (b:Nat) (t:TypeId) (k:Nat) (Z C:List Value) (f g:Nat→Bool) (h:∀ j ∈ (oL.one b t k Z C).ks,f j=g j):(oL.one b t k Z C).C f=(oL.one b t k Z C).C g:=by
 have:=h k (by simp[oL.one])
 simp[oL.one,this]
theorem Mf {w:World} {o:Oper} {ρ:Operand→Value} {b k:Nat} {t:TypeId} {Z C:List Value} {f:Nat→Bool} (hf:f k=false) (h0:Av w (oL.one b t k Z C).b (oL.one b t k Z C).t ((oL.one b t k Z C).C f)) (hz:Z.length=C.length) (ty:TypeId) (x y:Operand) (ho:o.op= .store ty x y) (hx:ρ x= .pointer (some ⟨b,0,none⟩)) (hy:ρ y= .agg C.toArray) (n:Nat) (hn:C.length=n)
  (hi:(P.info? ty).map (·.size)=some n) (h1:C.all (·.oneCell')=true):∃ w',(execOp ρ o).run P w= .ok .skip w'∧Av w' (oL.one b t k Z C).b (oL.one b t k Z C).t ((oL.one b t k Z C).C fun j=>j==k || f j)∧Fr (fun k=>k=b) w w':=by
 have h0:Av w b t Z:=by simpa [oL.one,hf] using h0
 obtain⟨w',r1,r2,r3⟩:=iY (P:=P) h0 hz ty x y ho hx hy n hn hi h1
 refine⟨w',r1,?_,r3⟩
 simpa [oL.one] using r2
end
end Go.Proofs.YtobjgebojhjhnaaGreatDoor
