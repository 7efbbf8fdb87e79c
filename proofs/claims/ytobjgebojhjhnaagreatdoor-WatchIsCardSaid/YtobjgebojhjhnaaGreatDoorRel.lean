import Derived.WalkKit
import Derived.Deep.Quiet
namespace Go.Proofs.YtobjgebojhjhnaaGreatDoor
open Go.RowKit
abbrev VP:=Value→World→Prop
section
variable (P:Program) (ops:Array Oper) (R:World→World→Prop)
def bG (j:Nat):Option Tmp:=(ops[j]?).bind (·.dst)
def kK (o:Oper) (j:Nat):Bool:=o.after.toList.any fun e=>Region.binds .any e && e.on==j
def bP (o:Oper) (j:Nat):Bool:=kK o j && (match bG ops j with|some t=>(o.looksAt ops).contains t|none=>false)
def cV (D:Nat→Bool) (w:World) (K:Act→Prop):List (Nat × VP)→Act→Prop
 | [],a=>K a
 |(j,phi) :: r,a=>if D j=true then ∀ v,phi v w→cV D w K r (a.put (bG ops j) v) else cV D w K r a
def pD (w:World) (ok:VP):Result Next→Prop
 | .ok (.value v) w'=>R w w'∧ok v w'
 | .ok .skip w'=>R w w'∧ok undef w'
 | .ok (.enter f args) w'=>Calls P f args w' fun e w''=>∃ v,e= .returned v∧R w w''∧ok v w''
 |_=>False
def dZ (o:Oper) (a:Act) (w:World) (ok:VP):Prop:=
 if Region.wanted o (yielded ops a.tmps)=true then pD P R w ok ((execOp a.eval o).run P w) else ok undef w
def bK (Q:Exit→Act→World→Prop) (w0:World) (L:List (Nat × VP)):Nat→List Oper→Act→Prop
 |_,[],a=>∀ w,R w0 w→cV ops (fun _=>true) w (fun a'=>Q .normal a' w) L a
 |i,o :: rest,a=>match L.lookup i with
  |none=>∃ c,(∀ w,R w0 w→cV ops (bP ops o) w (fun a'=>dZ P ops R o a' w (fun v _=>v=c)) L a)∧bK Q w0 L (i+1) rest (a.put o.dst c)
  |some phi=>(∀ w,R w0 w→cV ops (bP ops o) w (fun a'=>dZ P ops R o a' w phi) L a)∧bK Q w0 L (i+1) rest a
def sI (ks:List Nat):Bool:=
 (List.range ops.size).all (fun i=>match ops[i]? with
  |none=>true
  |some o=>
   (match o.op with| .select .. =>false|_=>true) &&
   o.after.toList.all (fun e=>!Region.binds .any e || decide (e.on<i)) &&
   (List.range ops.size).all (fun j=>j==i || o.dst==none || bG ops j !=o.dst) &&
   (o.looksAt ops).all (fun t=>(List.range ops.size).all fun j=>bG ops j !=some t ||
    (if j<i then kK o j else j==i || (match ops[j]? with|some oj=>kK oj i|none=>true)))) &&
 decide ks.Nodup && ks.all (fun k=>decide (k<ops.size) && (bG ops k).isSome)
end
section
variable {P:Program} {ops:Array Oper} {R:World→World→Prop} {Q:Exit→Act→World→Prop} {w0:World} {L:List (Nat × VP)}
theorem gG (a:Act) (d:Option Tmp) (v:Value):(a.put d v).tmps.size=a.tmps.size:=by
 cases d <;> simp[Act.put]
theorem kO (a:Act) (d:Option Tmp) (v:Value):(a.put d v).defers=a.defers:=by
 cases d <;> simp[Act.put]
theorem gH (a:Act) (d:Option Tmp) (v:Value) (t:Nat) (h:d≠some t):(a.put d v).tmps[t]? =a.tmps[t]? :=by
 cases d with
 |none=>rfl
 |some d=>
  have:d≠t:=fun e=>h (by rw[e])
  simp[Act.put,Array.getElem?_setIfInBounds_ne this]
theorem eE (a:Act) (v:Value) (t:Nat) (h:t<a.tmps.size):(a.put (some t) v).tmps[t]? =some v:=by
 simp[Act.put,h]
def cf (ops:Array Oper) (L:List (Nat × VP)) (c:Nat→Value) (a0:Act):Nat→Act
 |0=>a0
 |i+1=>match L.lookup i with
  |none=>(cf ops L c a0 i).put (bG ops i) (c i)
  |some _=>cf ops L c a0 i
theorem FD (c:Nat→Value) (a0:Act) (i:Nat):(cf ops L c a0 i).tmps.size=a0.tmps.size:=by
 induction i with
 |zero=>rfl
 |succ i ih=>simp only[cf];split <;> simp[gG,ih]
theorem uK (c:Nat→Value) (a0:Act) (i:Nat):(cf ops L c a0 i).defers=a0.defers:=by
 induction i with
 |zero=>rfl
 |succ i ih=>simp only[cf];split <;> simp[kO,ih]
theorem IB (c:Nat→Value) (a0:Act) (t i:Nat) (h:∀ j,j<i→L.lookup j=none→bG ops j≠some t):(cf ops L c a0 i).tmps[t]? =a0.tmps[t]? :=by
 induction i with
 |zero=>rfl
 |succ i ih=>
  simp only[cf]
  have ih:=ih fun j hj=>h j (by omega)
  split
  ·rename_i hn
   rw[gH _ _ _ _ (h i (by omega) hn),ih]
  ·exact ih
theorem Og (c:Nat→Value) (a0:Act) (t j i:Nat) (hj:j<i) (hl:L.lookup j=none) (hd:bG ops j=some t) (ht:t<a0.tmps.size)
  (hu:∀ k,k≠j→bG ops k≠some t):(cf ops L c a0 i).tmps[t]? =some (c j):=by
 induction i with
 |zero=>omega
 |succ i ih=>
  simp only[cf]
  by_cases hij:i=j
  ·subst hij
   rw[hl]
   dsimp only
   rw[hd]
   exact eE _ _ _ (by rw[FD];exact ht)
  ·have ih:=ih (by omega)
   split
   ·rw[gH _ _ _ _ (hu i hij),ih]
   ·exact ih
theorem AU (a0:Act):∀ (rest:List Oper) (i:Nat) (a:Act),(∀ k,rest[k]? =ops[i+k]?)→bK P ops R Q w0 L i rest a→ ∀ c0:Nat→Value,a=cf ops L c0 a0 i→
  ∃ c:Nat→Value,(∀ j,j<i→c j=c0 j)∧(∀ j o,i≤j→ops[j]? =some o→ ∀ w,R w0 w→cV ops (bP ops o) w (fun a'=>dZ P ops R o a' w (match L.lookup j with|none=>fun v _=>v=c j|some phi=>phi)) L (cf ops L c a0 j))∧
   (∀ w,R w0 w→cV ops (fun _=>true) w (fun a'=>Q .normal a' w) L (cf ops L c a0 ops.size)):=by
 have congr:∀ (c d:Nat→Value) (i:Nat),(∀ j,j<i→c j=d j)→cf ops L c a0 i=cf ops L d a0 i:=by
  intro c d i
  induction i with
  |zero=>intro _;rfl
  |succ i ih=>
   intro h
   simp only[cf]
   rw[ih fun j hj=>h j (by omega),h i (by omega)]
 intro rest
 induction rest with
 |nil=>
  intro i a hr h c0 ha
  subst ha
  have hsz:ops.size≤i:=by
   have:=hr 0
   simp at this
   exact this
  refine⟨c0,fun _ _=>rfl,fun j o hj ho=>?_,fun w hw=>?_⟩
  ·have:=(Array.getElem?_eq_some_iff.1 ho).1
   omega
  ·have hcf:∀ k,cf ops L c0 a0 (ops.size+k)=cf ops L c0 a0 ops.size:=by
    intro k
    induction k with
    |zero=>rfl
    |succ k ih=>
     rw[← Nat.add_assoc]
     simp only[cf]
     split
     ·have:bG ops (ops.size+k)=none:=by simp[bG]
      rw[this]
      exact ih
     ·exact ih
   have:=h w hw
   rw[show i=ops.size+(i - ops.size) from by omega,hcf] at this
   exact this
 |cons o rest ih=>
  intro i a hr h c0 ha
  have ho:ops[i]? =some o:=(hr 0).symm
  have hr':∀ k,rest[k]? =ops[i+1+k]? :=fun k=>by
   have:=hr (k+1)
   rw[List.getElem?_cons_succ] at this
   rw[this]
   congr 1
   omega
  have hd:bG ops i=o.dst:=by simp[bG,ho]
  unfold bK at h
  cases hl:L.lookup i with
  |none=>
   rw[hl] at h
   obtain⟨v,h1,h2⟩:=h
   have e1:cf ops L (fun j=>if j=i then v else c0 j) a0 i=cf ops L c0 a0 i:=congr _ _ _ fun j hj=>if_neg (by omega)
   obtain⟨c,hc,hob,hfin⟩:=ih (i+1) _ hr' h2 (fun j=>if j=i then v else c0 j) (by
    simp only[cf,hl,if_pos,hd]
    rw[e1,← ha])
   have hcv:c i=v:=(hc i (by omega)).trans (if_pos rfl)
   refine⟨c,fun j hj=>(hc j (by omega)).trans (if_neg (by omega)),fun j o' hj ho'=>?_,hfin⟩
   by_cases hji:j=i
   ·subst hji
    rw[ho] at ho'
    injection ho' with ho'
    subst ho'
    intro w hw
    rw[hl,hcv,congr c c0 j (fun k hk=>(hc k (by omega)).trans (if_neg (by omega))),← ha]
    exact h1 w hw
   ·exact hob j o' (by omega) ho'
  |some phi=>
   rw[hl] at h
   obtain⟨h1,h2⟩:=h
   obtain⟨c,hc,hob,hfin⟩:=ih (i+1) _ hr' h2 c0 (by simp only[cf,hl];exact ha)
   refine⟨c,fun j hj=>hc j (by omega),fun j o' hj ho'=>?_,hfin⟩
   by_cases hji:j=i
   ·subst hji
    rw[ho] at ho'
    injection ho' with ho'
    subst ho'
    intro w hw
    rw[hl,congr c c0 j (fun k hk=>hc k (by omega)),← ha]
    exact h1 w hw
   ·exact hob j o' (by omega) ho'
def gM (ops:Array Oper) (D:Nat→Bool) (V:Nat→Value):List (Nat × VP)→Act→Act
 | [],a=>a
 |(j,_) :: r,a=>if D j=true then gM ops D V r (a.put (bG ops j) (V j)) else gM ops D V r a
theorem iN {D:Nat→Bool} {w:World} {K:Act→Prop} (V:Nat→Value):∀ (L:List (Nat × VP)) (a:Act),cV ops D w K L a→(∀ p ∈ L,D p.1=true→p.2 (V p.1) w)→K (gM ops D V L a)
 | [],_,h,_=>h
 |(j,phi) :: r,a,h,hv=>by
  unfold cV at h
  unfold gM
  split
  ·rename_i hd
   rw[if_pos hd] at h
   exact iN V r _ (h (V j) (hv (j,phi) (List.mem_cons_self ..) hd)) fun p hp=>hv p (List.mem_cons_of_mem _ hp)
  ·rename_i hd
   rw[if_neg hd] at h
   exact iN V r _ h fun p hp=>hv p (List.mem_cons_of_mem _ hp)
theorem jX (D:Nat→Bool) (V:Nat→Value):∀ (L:List (Nat × VP)) (a:Act),(gM ops D V L a).defers=a.defers
 | [],_=>rfl
 |(j,phi) :: r,a=>by
  unfold gM
  split
  ·rw[jX D V r,kO]
  ·exact jX D V r a
theorem nX (D:Nat→Bool) (V:Nat→Value) (t:Nat):∀ (L:List (Nat × VP)) (a:Act),(∀ p ∈ L,D p.1=true→bG ops p.1≠some t)→(gM ops D V L a).tmps[t]? =a.tmps[t]?
 | [],_,_=>rfl
 |(j,phi) :: r,a,h=>by
  unfold gM
  split
  ·rename_i hd
   rw[nX D V t r _ fun p hp=>h p (List.mem_cons_of_mem _ hp),gH _ _ _ _ (h (j,phi) (List.mem_cons_self ..) hd)]
  ·exact nX D V t r a fun p hp=>h p (List.mem_cons_of_mem _ hp)
theorem qZ (D:Nat→Bool) (V:Nat→Value) (t j:Nat) (hj:bG ops j=some t) (hu:∀ k,k≠j→bG ops k≠some t) (hD:D j=true):∀ (L:List (Nat × VP)) (a:Act),t<a.tmps.size→
  ((∃ phi,(j,phi) ∈ L)∨a.tmps[t]? =some (V j))→(gM ops D V L a).tmps[t]? =some (V j)
 | [],a,_,h=>by
  rcases h with ⟨_,h⟩|h
  ·cases h
  ·exact h
 |(k,phi) :: r,a,ht,h=>by
  unfold gM
  by_cases hkj:k=j
  ·subst hkj
   rw[if_pos hD]
   exact qZ D V t k hj hu hD r _ (by rw[gG];exact ht) (.inr (by rw[hj];exact eE _ _ _ ht))
  ·have h':(∃ phi,(j,phi) ∈ r)∨a.tmps[t]? =some (V j):=by
    rcases h with ⟨q,h⟩|h
    ·rcases List.mem_cons.1 h with h|h
     ·exact absurd (congrArg Prod.fst h).symm hkj
     ·exact .inl ⟨q,h⟩
    ·exact .inr h
   split
   ·refine qZ D V t j hj hu hD r _ (by rw[gG];exact ht) ?_
    rw[gH _ _ _ _ (hu k hkj)]
    exact h'
   ·exact qZ D V t j hj hu hD r _ ht h'
theorem sJ {o:Oper} {a a':Act} {w:World} {ok:VP} (hs:∀ cs b,o.op≠ .select cs b) (h:∀ t ∈ o.looksAt ops,a.tmps[t]? =a'.tmps[t]?) (hh:dZ P ops R o a w ok):dZ P ops R o a' w ok:=by
 have hev:execOp a.eval o=execOp a'.eval o:=execOp_congr o hs fun x hx=>by
  cases x with
  |tmp t=>
   have ht:t ∈ o.looksAt ops:=List.mem_append_left _ (List.mem_filterMap.2 ⟨.tmp t,by simpa using hx,rfl⟩)
   simp only[Act.eval,Array.getD_eq_getD_getElem?,h t ht]
  |const v=>rfl
  |global g=>rfl
  |func f=>rfl
 have hwn:Region.wanted o (yielded ops a.tmps)=Region.wanted o (yielded ops a'.tmps):=by
  unfold Region.wanted
  cases hg:o.guard with
  |none=>rfl
  |some gw=>
   obtain⟨g,want⟩:=gw
   have hy:yielded ops a.tmps g=yielded ops a'.tmps g:=by
    unfold yielded
    cases ht:(ops[g]?).bind (·.dst) with
    |none=>rfl
    |some t=>
     have:=h t (by simp[Oper.looksAt,hg,ht])
     simp only[Option.bind_some,this]
   simp only[hy]
 unfold dZ at*
 rw[hev,hwn] at hh
 exact hh
structure nQ (ops:Array Oper) (R:World→World→Prop) (w0:World) (L:List (Nat × VP)) (c:Nat→Value) (a0:Act) (listed:Array Bool) (a:Act) (w:World):Prop where
 lsize:listed.size=ops.size
 size:a.tmps.size=a0.tmps.size
 defers:a.defers=a0.defers
 ext:R w0 w
 shut:∀ i o,ops[i]? =some o→listed.getD i false=true→ ∀ e ∈ o.after,Region.binds .any e=true→listed.getD e.on false=true
 one:∀ j t,bG ops j=some t→t<a0.tmps.size→listed.getD j false=true→L.lookup j=none→a.tmps[t]? =some (c j)
 word:∀ j t phi,bG ops j=some t→t<a0.tmps.size→listed.getD j false=true→L.lookup j=some phi→∃ v,a.tmps[t]? =some v∧phi v w
 old:∀ t,(∀ j,listed.getD j false=true→bG ops j≠some t)→a.tmps[t]? =a0.tmps[t]?
theorem pE {j:Nat} {phi:VP}:∀ {L:List (Nat × VP)},L.lookup j=some phi→(j,phi) ∈ L
 | [],h=>by cases h
 |(k,q) :: r,h=>by
  simp only[List.lookup] at h
  split at h
  ·rename_i hk
   injection h with h
   subst h
   have:j=k:=by simpa using hk
   subst this
   exact List.mem_cons_self ..
  ·exact List.mem_cons_of_mem _ (pE h)
theorem nR {j:Nat} {phi:VP}:∀ {L:List (Nat × VP)},(L.map (·.1)).Nodup→(j,phi) ∈ L→L.lookup j=some phi
 |(k,q) :: r,hn,h=>by
  simp only[List.map_cons,List.nodup_cons] at hn
  simp only[List.lookup]
  rcases List.mem_cons.1 h with h|h
  ·cases h
   simp
  ·have hjk:j≠k:=fun e=>hn.1 (by rw[← e];exact List.mem_map.2 ⟨(j,phi),h,rfl⟩)
   have:(j==k)=false:=by simpa using hjk
   rw[this]
   exact nR hn.2 h
theorem Xc152 {p:Prop} (h:p:=by
 rcases Nat.lt_or_ge j ops.size with h|h
 ·exact h
 ·simp[bG,Array.getElem?_eq_none h] at hj):p:=h
theorem rC {ks:List Nat} (h:sI ops ks=true):
  (∀ i o,ops[i]? =some o→(∀ cs b,o.op≠ .select cs b)∧(∀ e ∈ o.after,Region.binds .any e=true→e.on<i)∧
   (∀ j d,o.dst=some d→j≠i→bG ops j≠some d)∧
   (∀ t ∈ o.looksAt ops,∀ j oj,ops[j]? =some oj→oj.dst=some t→(j<i∧kK o j=true)∨j=i∨(i<j∧kK oj i=true)))∧ks.Nodup∧ ∀ k ∈ ks,k<ops.size∧∃ t,bG ops k=some t:=by
 unfold sI at h
 simp only[Bool.and_eq_true,List.all_eq_true,List.mem_range,decide_eq_true_eq] at h
 obtain⟨⟨h1,h2⟩,h3⟩:=h
 refine⟨fun i o ho=>?_,h2,fun k hk=>⟨(h3 k hk).1,Option.isSome_iff_exists.1 (h3 k hk).2⟩⟩
 have hi:=(Array.getElem?_eq_some_iff.1 ho).1
 have h4:=h1 i hi
 rw[ho] at h4
 simp only[Bool.and_eq_true,List.all_eq_true,List.mem_range,Bool.or_eq_true,Bool.not_eq_true',decide_eq_true_eq,beq_iff_eq,bne_iff_ne] at h4
 obtain⟨⟨⟨ha,hb⟩,hc⟩,hd⟩:=h4
 refine⟨fun cs b e=>?_,fun e he hbi=>?_,fun j d hod hji hj=>?_,fun t ht j oj hoj hdj=>?_⟩
 ·rw[e] at ha;cases ha
 ·rcases hb e (Array.mem_toList_iff.2 he) with h|h
  ·rw[h] at hbi;cases hbi
  ·exact h
 ·have hjl:j<ops.size:=by
   exact Xc152
  rcases hc j hjl with (h|h)|h
  ·exact hji h
  ·rw[hod] at h;cases h
  ·exact h (by rw[hj,hod])
 ·have hjl:=(Array.getElem?_eq_some_iff.1 hoj).1
  rcases hd t ht j hjl with h|h
  ·exact absurd (by simp[bG,hoj,hdj]) h
  ·split at h
   ·rename_i hlt
    exact .inl ⟨hlt,h⟩
   ·rename_i hge
    rw[hoj] at h
    simp only[Bool.or_eq_true,beq_iff_eq] at h
    rcases h with h|h
    ·exact .inr (.inl h)
    ·rcases Nat.lt_or_ge i j with h'|h'
     ·exact .inr (.inr ⟨h',h⟩)
     ·exact .inr (.inl (by omega))
theorem fR {o:Oper} {j:Nat} (h:kK o j=true):∃ e ∈ o.after,Region.binds .any e=true∧e.on=j:=by
 unfold kK at h
 rw[List.any_eq_true] at h
 obtain⟨e,he,h⟩:=h
 simp only[Bool.and_eq_true,beq_iff_eq] at h
 exact⟨e,Array.mem_toList_iff.1 he,h.1,h.2⟩
theorem eN {listed:Array Bool} {i:Nat} (h:listed.getD i true=false):listed.getD i false=false:=by
 rw[Array.getD_eq_getD_getElem?] at*
 cases hl:listed[i]? with
 |none=>rfl
 |some b=>rw[hl] at h;simpa using h
theorem nY {c:Nat→Value} {a0:Act} (hnd:(L.map (·.1)).Nodup) (hrange:∀ j t,bG ops j=some t→t<a0.tmps.size) (huniq:∀ j t,bG ops j=some t→ ∀ k,k≠j→bG ops k≠some t)
  {listed:Array Bool} {a:Act} {w:World} (hI:nQ ops R w0 L c a0 listed a w) (D:Nat→Bool) (i t:Nat)
  (h:∀ j,bG ops j=some t→(listed.getD j false=true∧j<i∧D j=true)∨(listed.getD j false=false∧i≤j∧D j=false)):
  (gM ops D (fun j=>a.tmps.getD ((bG ops j).getD 0) undef) L (cf ops L c a0 i)).tmps[t]? =a.tmps[t]? :=by
 by_cases hj:∃ j,bG ops j=some t
 ·obtain⟨j,hj⟩:=hj
  have ht:=hrange j t hj
  rcases h j hj with ⟨hl,hji,hD⟩|⟨hl,hij,hD⟩
  ·cases hlk:L.lookup j with
   |none=>
    rw[nX D _ t L _ (fun p hp _ hd=>?_),Og c a0 t j i hji hlk hj ht (huniq j t hj),hI.one j t hj ht hl hlk]
    by_cases e:p.1=j
    ·have:=nR hnd hp
     rw[e,hlk] at this
     cases this
    ·exact huniq j t hj p.1 e hd
   |some phi=>
    obtain⟨v,hv,_⟩:=hI.word j t phi hj ht hl hlk
    rw[qZ D _ t j hj (huniq j t hj) hD L _ (by rw[FD];exact ht) (.inl ⟨phi,pE hlk⟩)]
    simp only[hj,Option.getD_some,Array.getD_eq_getD_getElem?,hv]
  ·have hno:∀ k,bG ops k=some t→k=j:=fun k hk=>Classical.byContradiction fun e=>huniq j t hj k e hk
   rw[nX D _ t L _ (fun p hp hDp hd=>by rw[hno p.1 hd,hD] at hDp;cases hDp),IB c a0 t i (fun k hk _ hd=>by have:=hno k hd;omega),
    hI.old t (fun k hk hd=>by rw[hno k hd,hl] at hk;cases hk)]
 ·have hno:∀ k,bG ops k≠some t:=fun k hk=>hj ⟨k,hk⟩
  rw[nX D _ t L _ (fun p _ _=>hno p.1),IB c a0 t i (fun k _ _=>hno k),hI.old t (fun k _=>hno k)]
theorem nZ {c:Nat→Value} {a0:Act} (hnd:(L.map (·.1)).Nodup) (hrange:∀ j t,bG ops j=some t→t<a0.tmps.size) (hks:∀ k ∈ L.map (·.1),k<ops.size∧∃ t,bG ops k=some t)
  {listed:Array Bool} {a:Act} {w:World} (hI:nQ ops R w0 L c a0 listed a w) (p:Nat × VP) (hp:p ∈ L) (hl:listed.getD p.1 false=true):p.2 (a.tmps.getD ((bG ops p.1).getD 0) undef) w:=by
 obtain⟨_,t,ht⟩:=hks p.1 (List.mem_map.2 ⟨p,hp,rfl⟩)
 obtain⟨v,hv,hphi⟩:=hI.word p.1 t p.2 ht (hrange _ _ ht) hl (nR hnd hp)
 simp only[ht,Option.getD_some,Array.getD_eq_getD_getElem?,hv]
 exact hphi
theorem Xc144 {p:Prop} (h:p:=by
 rw[List.eq_nil_iff_forall_not_mem]
 intro i hi
 rw[mem_ready] at hi
 obtain⟨h0,o,ho,_⟩:=hi
 have:=hall i (Array.getElem?_eq_some_iff.1 ho).1
 rw[eN h0] at this
 cases this):p:=h
theorem Xc120 {p:Prop} (h:p:=by
 intro k hk hkl
 have hki:i≠k:=by
  rintro rfl
  rw[Array.getD_eq_getD_getElem?,Array.getElem?_setIfInBounds_self_of_lt (by rw[hI.lsize];exact hilt)] at hkl
  cases hkl
 rw[getD_set_ne false hki] at hkl
 exact(List.mem_erase_of_ne (Ne.symm hki)).2 (hin k hk hkl)):p:=h
theorem Xc118 {p:Prop} (h:p:=by
 intro j hj
 by_cases hji:i=j
 ·exact .inr hji.symm
 ·rw[getD_set_ne false hji] at hj
  exact .inl hj):p:=h
theorem Xc92 {p:Prop} (h:p:=by
 rw[gH _ _ _ _ (fun e=>huniq j t hj i (Ne.symm hji) (hdst.trans e))]
 exact hI.one j t hj ht ((hset j hjl).resolve_right hji) hlk):p:=h
theorem Xc83 {p:Prop} (h:p:=by
 rw[gH _ _ _ _ (fun e=>huniq j t hj i (Ne.symm hji) (hdst.trans e))]
 obtain⟨u,hu,hphi⟩:=hI.word j t phi hj ht ((hset j hjl).resolve_right hji) hlk
 exact⟨u,hu,hmono (j,phi) (pE hlk) u w w' hR hphi⟩):p:=h
theorem Xc70 {p:Prop} (h:p:=by
 intro k ok hok' hkl e he hb
 rcases hset k hkl with h|h
 ·exact getD_set_true (hI.shut k ok hok' h e he hb)
 ·subst h
  rw[ho] at hok'
  injection hok' with hok'
  subst hok'
  exact getD_set_true (hall e he hb)):p:=h
theorem Xc52 {p:Prop} (h:p:=by
 rw[if_pos hw] at hop ⊢
 refine .inl ?_
 unfold Oper.wp
 generalize (execOp a.eval o).run P w=r at hop ⊢
 cases r with
 |halt x w'=>exact hop.elim
 |ok nx w'=>
  cases nx with
  |value v=>exact next v w' hop.1 hop.2
  |skip=>exact next undef w' hop.1 hop.2
  |enter f args=>
   refine Calls.mono hop ?_
   rintro e w'' ⟨v,rfl,h1,h2⟩
   exact next v w'' h1 h2
  |_=>exact hop.elim):p:=h
theorem Xc44 {p:Prop} (h:p:=by
 intro t ht
 have hi1:(listed.setIfInBounds i true).getD i false=true:=by
  rw[Array.getD_eq_getD_getElem?,Array.getElem?_setIfInBounds_self_of_lt (by rw[hI.lsize];exact hilt)]
  rfl
 rw[gH _ _ _ _ (fun e=>ht i hi1 (hdst.trans e))]
 exact hI.old t fun j hj=>ht j (getD_set_true hj)):p:=h
theorem Xc39 {p:Prop} (h:p:=by
 refine nY hnd hrange huniq hI (bP ops o) i t fun j hj=>?_
 have hjlt:=hlt j t hj
 have hoj:=Array.getElem?_eq_getElem hjlt
 rcases hlooks t ht j _ hoj (by simpa [bG,hoj] using hj) with ⟨h1,h2⟩|h1|⟨h1,h2⟩
 ·obtain⟨e,he,hb,hon⟩:=fR h2
  have:=hall e he hb
  rw[hon] at this
  exact .inl ⟨this,h1,by unfold bP;rw[h2,hj];simpa using ht⟩
 ·subst h1
  refine .inr ⟨hiu,Nat.le_refl _,?_⟩
  unfold bP
  cases hD:kK o j with
  |false=>rfl
  |true=>
   obtain⟨e,he,hb,hon⟩:=fR hD
   have:=hearly e he hb
   omega
 ·refine .inr ⟨?_,by omega,?_⟩
  ·cases hl:listed.getD j false with
   |false=>rfl
   |true=>
    obtain⟨e,he,hb,hon⟩:=fR h2
    have:=hI.shut j _ hoj hl e he hb
    rw[hon,hiu] at this
    cases this
  ·unfold bP
   cases hD:kK o j with
   |false=>rfl
   |true=>
    obtain⟨e,he,hb,hon⟩:=fR hD
    have:=hearly e he hb
    omega):p:=h
theorem Lz {c:Nat→Value} {a0:Act} (hB:sI ops (L.map (·.1))=true) (hrange:∀ j t,bG ops j=some t→t<a0.tmps.size)
  (htr:∀ a b d,R a b→R b d→R a d) (hmono:∀ p ∈ L,∀ v w w',R w w'→p.2 v w→p.2 v w')
  (hob:∀ j o,ops[j]? =some o→ ∀ w,R w0 w→cV ops (bP ops o) w (fun a'=>dZ P ops R o a' w (match L.lookup j with|none=>fun v _=>v=c j|some phi=>phi)) L (cf ops L c a0 j))
  (hsk:∀ w,R w w)
  (hfin:∀ w,R w0 w→cV ops (fun _=>true) w (fun a'=>Q .normal a' w) L (cf ops L c a0 ops.size)):
  ∀ (fuel:Nat) (listed:Array Bool) (a:Act) (w:World) (U:List Nat),U.length≤fuel→(∀ i,i<ops.size→listed.getD i false=false→i ∈ U)→nQ ops R w0 L c a0 listed a w→wpAny P .any ops Q fuel listed a w:=by
 obtain⟨hB1,hnd,hks⟩:=rC hB
 have huniq:∀ j t,bG ops j=some t→ ∀ k,k≠j→bG ops k≠some t:=by
  intro j t hj k hk
  cases ho:ops[j]? with
  |none=>simp[bG,ho] at hj
  |some o=>exact(hB1 j o ho).2.2.1 k t (by simpa [bG,ho] using hj) hk
 have hlt:∀ j t,bG ops j=some t→j<ops.size:=by
  intro j t hj
  exact Xc152
 have theEnd:∀ (listed:Array Bool) (a:Act) (w:World),nQ ops R w0 L c a0 listed a w→(∀ i,i<ops.size→listed.getD i false=true)→Q .normal a w:=by
  intro listed a w hI hall
  have h1:=iN (fun j=>a.tmps.getD ((bG ops j).getD 0) undef) L _ (hfin w hI.ext) (fun p hp _=>nZ hnd hrange hks hI p hp (hall _ (hks _ (List.mem_map.2 ⟨p,hp,rfl⟩)).1))
  have e:gM ops (fun _=>true) (fun j=>a.tmps.getD ((bG ops j).getD 0) undef) L (cf ops L c a0 ops.size)=a:=by
   have hd:(gM ops (fun _=>true) (fun j=>a.tmps.getD ((bG ops j).getD 0) undef) L (cf ops L c a0 ops.size)).defers=a.defers:=by
    rw[jX,uK,hI.defers]
   have ht:(gM ops (fun _=>true) (fun j=>a.tmps.getD ((bG ops j).getD 0) undef) L (cf ops L c a0 ops.size)).tmps=a.tmps:=
    Array.ext_getElem? fun t=>nY hnd hrange huniq hI (fun _=>true) ops.size t fun j hj=>.inl ⟨hall j (hlt j t hj),hlt j t hj,rfl⟩
   cases hx:gM ops (fun _=>true) (fun j=>a.tmps.getD ((bG ops j).getD 0) undef) L (cf ops L c a0 ops.size)
   rw[hx] at hd ht
   cases a
   simp_all
  rw[e] at h1
  exact h1
 have noReady:∀ (listed:Array Bool),listed.size=ops.size→Region.ready .any ops listed= []→ ∀ i,i<ops.size→listed.getD i false=true:=by
  intro listed hsz hr i
  induction i using Nat.strongRecOn with
  |ind i ih=>
   intro hi
   cases hl:listed.getD i false with
   |true=>rfl
   |false=>
    have:i ∈ Region.ready .any ops listed:=by
     rw[mem_ready]
     refine⟨?_,ops[i],Array.getElem?_eq_getElem hi,fun e he hb=>?_⟩
     ·rw[Array.getD_eq_getD_getElem?] at hl ⊢
      rw[Array.getElem?_eq_getElem (by omega)] at hl ⊢
      exact hl
     ·have:=(hB1 i _ (Array.getElem?_eq_getElem hi)).2.1 e he hb
      exact ih e.on this (by omega)
    rw[hr] at this
    cases this
 intro fuel
 induction fuel with
 |zero=>
  intro listed a w U hU hin hI
  have hall:∀ i,i<ops.size→listed.getD i false=true:=by
   intro i hi
   cases hl:listed.getD i false with
   |true=>rfl
   |false=>
    have:=hin i hi hl
    have hU0:U= []:=List.eq_nil_of_length_eq_zero (by omega)
    rw[hU0] at this
    cases this
  refine⟨?_,theEnd listed a w hI hall⟩
  exact Xc144
 |succ fuel ih=>
  intro listed a w U hU hin hI
  refine⟨fun hr=>theEnd listed a w hI (noReady listed hI.lsize hr),fun i hi=>?_⟩
  rw[mem_ready] at hi
  obtain⟨h0,o,ho,hall⟩:=hi
  have hiu:=eN h0
  have hilt:=(Array.getElem?_eq_some_iff.1 ho).1
  obtain⟨hsel,hearly,_,hlooks⟩:=hB1 i o ho
  have hdst:bG ops i=o.dst:=by simp[bG,ho]
  have hop:dZ P ops R o a w (match L.lookup i with|none=>fun v _=>v=c i|some phi=>phi):=by
   refine sJ hsel (fun t ht=>?_) (iN (fun j=>a.tmps.getD ((bG ops j).getD 0) undef) L _ (hob i o ho w hI.ext) (fun p hp hD=>nZ hnd hrange hks hI p hp ?_))
   ·exact Xc39
   ·have hD':kK o p.1=true:=by
     unfold bP at hD
     simp only[Bool.and_eq_true] at hD
     exact hD.1
    obtain⟨e,he,hb,hon⟩:=fR hD'
    have:=hall e he hb
    rwa [hon] at this
  have next:∀ v w',R w w'→(match L.lookup i with|none=>fun v _=>v=c i|some phi=>phi:VP) v w'→wpAny P .any ops Q fuel (listed.setIfInBounds i true) (a.put o.dst v) w':=by
   intro v w' hR hok
   have hset:∀ j,(listed.setIfInBounds i true).getD j false=true→listed.getD j false=true∨j=i:=by
    exact Xc118
   refine ih _ _ _ (U.erase i) ?_ ?_ ⟨by simp[hI.lsize],by rw[gG,hI.size],by rw[kO,hI.defers],htr _ _ _ hI.ext hR,?_,?_,?_,?_⟩
   ·have:=List.length_erase_of_mem (hin i hilt hiu)
    omega
   ·exact Xc120
   ·exact Xc70
   ·intro j t hj ht hjl hlk
    by_cases hji:j=i
    ·subst hji
     rw[hdst] at hj
     rw[hlk] at hok
     rw[hj,eE _ _ _ (by rw[hI.size];exact ht)]
     exact congrArg some hok
    ·exact Xc92
   ·intro j t phi hj ht hjl hlk
    by_cases hji:j=i
    ·subst hji
     rw[hdst] at hj
     rw[hlk] at hok
     rw[hj,eE _ _ _ (by rw[hI.size];exact ht)]
     exact⟨v,rfl,hok⟩
    ·exact Xc83
   ·exact Xc44
  unfold dZ at hop
  unfold wpOp
  rw[ho]
  dsimp only
  by_cases hw:Region.wanted o (yielded ops a.tmps)=true
  ·exact Xc52
  ·rw[if_neg hw] at hop ⊢
   exact next undef w (hsk w) hop
theorem Xc135 {p:Prop} (h:p:=by
 intro j
 rw[Array.getD_eq_getD_getElem?,Array.getElem?_replicate]
 split <;> simp):p:=h
theorem Xc62 {p:Prop} (h:p:=by
 rw[List.all_eq_true] at hrange
 cases ho:l[j]? with
 |none=>simp[bG,ho] at hj
 |some o=>
  have:=hrange o (List.mem_of_getElem? ho)
  have hd:o.dst=some t:=by simpa [bG,ho] using hj
  rw[hd] at this
  simpa using this):p:=h
theorem nS {id:Nat} {a:Act} {w:World} {l:List Oper} (L:List (Nat × VP)) (R:World→World→Prop) (hm:P.follows .mixedOrders=true) (hB:sI l.toArray (L.map (·.1))=true)
  (hrange:l.all (fun o=>match o.dst with|some d=>decide (d<a.tmps.size)|none=>true)=true)
  (hrefl:∀ w,R w w) (htr:∀ a b d,R a b→R b d→R a d) (hmono:∀ p ∈ L,∀ v w w',R w w'→p.2 v w→p.2 v w')
  (h:bK P l.toArray R Q w.drew L 0 l a):(Code.region id l.toArray true).wp P Q a w:=by
 obtain⟨c,_,hob,hfin⟩:=AU a l 0 a (fun k=>by simp) h (fun _=>undef) rfl
 refine wp_region_any hm (Lz (c:=c) (a0:=a) hB (fun j t hj=>?_) htr hmono (fun j o ho=>hob j o (Nat.zero_le _) ho) hrefl hfin l.toArray.size _ a _ (List.range l.toArray.size) (by simp) (fun i hi _=>List.mem_range.2 hi) ?_)
 ·exact Xc62
 ·have hnone:∀ j,¬ (Array.replicate l.toArray.size false).getD j false=true:=by
   exact Xc135
  exact⟨by simp,rfl,rfl,hrefl _,fun i o _ hl=>absurd hl (hnone i),fun j t _ _ hl=>absurd hl (hnone j),fun j t phi _ _ hl=>absurd hl (hnone j),fun t _=>rfl⟩
end
end Go.Proofs.YtobjgebojhjhnaaGreatDoor
