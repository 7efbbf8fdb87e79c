import Derived.Test.YtobjgebojhjhnaaGreatDoorQr11
import Derived.Maps.OwnSet
import Derived.DeepKeys4
namespace Go.Proofs.YtobjgebojhjhnaaGreatDoor
set_option maxRecDepth 100000
set_option maxHeartbeats 16000000
open Go.RowKit Tryz
theorem Mn (x:Nat) (h:x<18446744073709551616):18446744073709551615 ^^^ x=18446744073709551615 - x:=by
 have h1:(BitVec.allOnes 64 ^^^ BitVec.ofNat 64 x).toNat=18446744073709551615 - x:=by
  rw[BitVec.allOnes_xor];simp;omega
 rw[BitVec.toNat_xor,BitVec.toNat_allOnes,BitVec.toNat_ofNat,Nat.mod_eq_of_lt OM] at h1
 exact h1
theorem tM (x:Nat) (h:x<18446744073709551616):bits .xor .u64 IntKind.u64.max (x:Int)=((18446744073709551616 - 1 - x:Nat):Int):=by
 have e:=Mn x h
 rw[show 18446744073709551616 - 1 - x=18446744073709551615 - x from rfl,← e]
 unfold bits
 simp
 rw[show (IntKind.u64.max % 2 ^ IntKind.u64.bits).toNat=18446744073709551615 from by decide,show x % 2 ^ IntKind.u64.bits=x from Nat.mod_eq_of_lt (by rw[show 2 ^ IntKind.u64.bits=18446744073709551616 from by decide];exact h),IntKind.wrap_u64,e]
 omega
theorem Mo (n:Nat) (h:n<115792089237316195423570985008687907853269984665640564039457584007913129639936):uc (115792089237316195423570985008687907853269984665640564039457584007913129639936 - 1 - n)=fS (18446744073709551616 - 1 - lim n 0) (18446744073709551616 - 1 - lim n 1) (18446744073709551616 - 1 - lim n 2) (18446744073709551616 - 1 - lim n 3):=by
 have hs:=vU h
 have l0:=fG n 0
 have l1:=fG n 1
 have l2:=fG n 2
 have l3:=fG n 3
 obtain⟨N,hN,hNs,q0,q1,q2,q3⟩:=Oh (18446744073709551616 - 1 - lim n 0) (18446744073709551616 - 1 - lim n 1) (18446744073709551616 - 1 - lim n 2) (18446744073709551616 - 1 - lim n 3) OM OM OM OM
 have e:115792089237316195423570985008687907853269984665640564039457584007913129639936 - 1 - n=N:=by
  rw[hNs]
  clear q0 q1 q2 q3
  omega
 rw[e,uc,q0,q1,q2,q3]
theorem Rw (n:Nat) (hn:n<115792089237316195423570985008687907853269984665640564039457584007913129639936) (w:World):
  Calls prog 87 #[.agg (uc n).toArray] w fun e w'=>e= .returned (.agg (uc (115792089237316195423570985008687907853269984665640564039457584007913129639936 - 1 - n)).toArray)∧Below w.heap.size w w':=by
 rw[Mo n hn]
 have l0:=fG n 0
 have l1:=fG n 1
 have l2:=fG n 2
 have l3:=fG n 3
 unfold uc
 generalize lim n 0=x0 at*
 generalize lim n 1=x1 at*
 generalize lim n 2=x2 at*
 generalize lim n 3=x3 at*
 have g0:=tM x0 l0
 have g1:=tM x1 l1
 have g2:=tM x2 l2
 have g3:=tM x3 l3
 have hsg:IntKind.u64.signed=false:=rfl
 generalize 18446744073709551616 - 1 - x0=y0 at*
 generalize 18446744073709551616 - 1 - x1=y1 at*
 generalize 18446744073709551616 - 1 - x2=y2 at*
 generalize 18446744073709551616 - 1 - x3=y3 at*
 obtain⟨W,hW⟩:=Nm ((w.alloc (.cells (fS x0 x1 x2 x3).toArray 151)).alloc (.cells #[.int .u64 0,.int .u64 0,.int .u64 0,.int .u64 0] 151))
 obtain⟨H,hH⟩:=Nm (w.heap.size)
 refine Xm82 ?_;intro bW
 have aA:Av W H 151 (fS x0 x1 x2 x3):=by rw[hW,hH];exact heap_alloc2_old _ _ _
 have aR:Av W (H+1) 151 (fS 0 0 0 0):=by rw[hW,hH];exact heap_alloc2_new _ _ _
 have c0:=aA.cell 0 _ rfl
 have c1:=aA.cell 1 _ rfl
 have c2:=aA.cell 2 _ rfl
 have c3:=aA.cell 3 _ rfl
 have hHw:w.heap.size≤H+1:=by rw[hH];omega
 replace hW:=Hy hW
 replace hH:=Hy hH
 go_enter func87,ntmps87
 go_upto_region 1 with fail
 rw[← hW.out,← hH.out]
 go_wp2_with ((with_reducible refine SF bW aR hHw (fS y0 y1 y2 y3) 4 ?_ ?_ ?_);rfl;rfl;intro w6 a6 b6 k6 z6)
 refine bodyPost_ret (results_cell_row rfl _ _ (H+1) _ _ (0,0) _ bM a6 SU rfl KR) rfl ⟨rfl,b6⟩
theorem Jn (b:Nat) (hb:b<4294967296) (h:lP b=none) (w:World):
  Calls prog 58 #[.int .u32 (b:Int)] w fun e w'=>e= .returned (.agg (uc 0).toArray)∧Below w.heap.size w w':=by
 have HE:=Qa b hb
 rw[jT h] at HE
 refine Xm127 ?_;intro W hW H hH bW
 have aR:Av W H 151 (fS 0 0 0 0):=by rw[hW,hH];exact heap_alloc_new _ _
 replace HE:=Hy HE
 replace hW:=Hy hW
 replace hH:=Hy hH
 have z4:uc 0=fS 0 0 0 0:=vX
 replace z4:=Hy z4
 go_enter func58,ntmps58
 go_upto_region 1 with fail
 rw[← hW.out,← hH.out]
 go_upto_region 2 with (first
  |(go_at_call 84;refine(HE.out W).mono ?_;rintro e w1 ⟨rfl,b1⟩)
  |((with_reducible refine SN (uc 0) 4 ?_ ?_ ?_);rfl;rfl;intro w2 a2 b2 k2 z2;clear k2;replace z2:=Hy z2))
 have hlt:=aR.lt
 have c2:Below H w w2:=(bW.trans (b1.mono (Nat.le_of_lt hlt))).trans (b2.mono (Nat.le_trans (Nat.le_of_lt hlt) b1.size))
 have r2:=(aR.b b1).b b2
 clear b1 b2 a2 bW aR
 go_wp2_with ((with_reducible refine SF c2 r2 LR (fS 0 0 0 0) 4 ?_ ?_ ?_);rfl;rfl;intro w6 a6 b6 k6 z6;clear k6;replace z6:=Hy z6)
 refine bodyPost_ret (results_cell_row rfl _ _ H _ _ (0,0) _ bM a6 SU rfl KR) rfl ⟨by rw[z4.out],by rw[← hH.out];exact b6⟩
theorem GV (b t:Nat) (hb:b<4294967296) (h:lP b=some t) (w:World):
  Calls prog 58 #[.int .u32 (b:Int)] w fun e w'=>e= .returned (.agg (uc (fE b)).toArray)∧Below w.heap.size w w':=by
 have HE:=Qa b hb
 rw[oJ h] at HE
 obtain⟨ht,ht0⟩:=LV h
 obtain⟨R,hR⟩:=Nm (fE b)
 have hR2:R=if 115792089237316195423570985008687907853269984665640564039457584007913129639936≤t+1 then 1 else ((115792089237316195423570985008687907853269984665640564039457584007913129639936 - 1 - t) / (t+1)+1) % 115792089237316195423570985008687907853269984665640564039457584007913129639936:=by rw[hR,fE,h]
 rw[← hR]
 refine Xm127 ?_;intro W hW H hH bW
 have aR:Av W H 151 (fS 0 0 0 0):=by rw[hW,hH];exact heap_alloc_new _ _
 have HO:=Sf 1 OM
 have HA:=LX t 1 ht OM
 obtain⟨V,hV⟩:=Nm ((t+1) % 115792089237316195423570985008687907853269984665640564039457584007913129639936)
 obtain⟨o,ho⟩:=Nm (decide (115792089237316195423570985008687907853269984665640564039457584007913129639936≤t+1))
 rw[← hV,← ho] at HA
 replace HE:=Hy HE
 replace HO:=Hy HO
 replace HA:=Hy HA
 replace hW:=Hy hW
 replace hH:=Hy hH
 replace hR:=Hy hR
 replace hR2:=Hy hR2
 replace hV:=Hy hV
 replace ho:=Hy ho
 go_enter func58,ntmps58
 go_upto_region 1 with fail
 rw[← hW.out,← hH.out]
 go_upto_region 2 with (first
  |(go_at_call 84;refine(HE.out W).mono ?_;rintro e w1 ⟨rfl,b1⟩)
  |((with_reducible refine SN (uc t) 4 ?_ ?_ ?_);rfl;rfl;intro w2 a2 b2 k2 z2;clear k2;replace z2:=Hy z2))
 have hlt:=aR.lt
 have c2:Below H w w2:=(bW.trans (b1.mono (Nat.le_of_lt hlt))).trans (b2.mono (Nat.le_trans (Nat.le_of_lt hlt) b1.size))
 have r2:=(aR.b b1).b b2
 have hg:H<w1.heap.size:=Nat.lt_of_lt_of_le hlt b1.size
 obtain⟨G,hG⟩:=Nm (w1.heap.size)
 rw[← hG] at hg a2 ⊢
 have a3:=a2
 clear b1 b2 a2 bW aR hG
 go_upto_region 4 with fail
 refine dG [⟨6,5,7,151,fS 0 0 0 0,uc V⟩] [] KR KR KR KR KR (by intro e he;cases he) zS (by intro e he;cases he) ?_
 refine dK rfl rfl rfl rfl (c:=.agg (uc t).toArray) (fun w hw=>aE (a3.b hw.nil) _ _ rfl rfl _ 4 rfl SU rfl KR) zZ ?_
 refine jO rfl rfl rfl rfl (c:=.agg (uc 1).toArray) 85 #[.int .u64 1] (fun w=>by go_simp) (fun w hw=>(HO.out w).mono (by rintro e w' ⟨rfl,b⟩;exact⟨rfl,b⟩)) zZ ?_
 refine jO rfl rfl rfl rfl (c:=.tuple #[.agg (uc V).toArray,.bool o]) 60 #[.agg (uc t).toArray,.agg (uc 1).toArray] (fun w=>by go_simp) (fun w hw=>(HA.out w).mono (by rintro e w' ⟨rfl,b⟩;exact⟨rfl,b⟩)) zZ ?_
 repeat refine dK rfl rfl rfl rfl vR zZ ?_
 refine mU rfl rfl (fun ρ w=>by unfold execOp;go_simp;rfl) ?_
 refine mV rfl rfl (fun w hw=>aC rfl rfl fun v _=>aF fun b hb h0=>?_) ?_
 ·simp at hb
  subst hb
  exact iY h0 rfl _ _ _ rfl rfl rfl 4 rfl KR rfl
 refine mT rfl rfl rfl rfl _ (.inr rfl) pB zZ ?_
 refine wM fun w4 hw4=>aC rfl rfl fun v _=>aF fun hJ _=>?_
 obtain⟨gV,hb,hB,aV⟩:=hJ.at_ ⟨6,5,7,151,fS 0 0 0 0,uc V⟩ (List.mem_cons_self ..) rfl
 simp at hb
 subst hb
 replace aV:Av w4 gV 151 (uc V):=aV
 have b4:Below w2.heap.size w2 w4:=hw4.nil
 have c4:=c2.trans (b4.mono (Nat.le_of_lt r2.lt))
 have a4:=a3.b b4
 have r4:=r2.b b4
 have gV2:H<gV:=Nat.lt_of_lt_of_le r2.lt hB
 clear hw4 hJ r2 a3 b4 hB
 simp only[List.set_cons_succ,List.set_cons_zero]
 cases o with
 |true=>
  have hRe:R=1:=by rw[hR2.out,if_pos (by have:=ho.out;simpa using this)]
  replace hRe:=Hy hRe
  have hHG:H≤H:=Nat.le_refl _
  go_wp2_with (first
   |(go_at_call 85;refine(HO.out w4).mono ?_;rintro e w5 ⟨rfl,b5⟩;have c5:=c4.trans (b5.mono (Nat.le_of_lt r4.lt));have r5:=r4.b b5)
   |((with_reducible refine SF c5 r5 hHG (uc 1) 4 ?_ ?_ ?_);rfl;rfl;intro w6 a6 b6 k6 z6;clear k6;replace z6:=Hy z6))
  refine bodyPost_ret (results_cell_row rfl _ _ H _ _ (0,0) _ bM a6 SU rfl KR) rfl ⟨by rw[hRe.out],by rw[← hH.out];exact b6⟩
 |false=>
  have hno:¬ 115792089237316195423570985008687907853269984665640564039457584007913129639936≤t+1:=by have:=ho.out;simpa using this
  have hV1:V=t+1:=by rw[hV.out,Nat.mod_eq_of_lt OM]
  have HN:=Rw t ht
  obtain⟨N,hN⟩:=Nm (115792089237316195423570985008687907853269984665640564039457584007913129639936 - 1 - t)
  rw[← hN] at HN
  have HD:=Rn N V OM OM OM
  obtain⟨q,hq⟩:=Nm (N / V)
  obtain⟨r,hr⟩:=Nm (N % V)
  have hql:q≤N:=by rw[hq];exact Nat.div_le_self _ _
  have HX:=LX q 1 OM OM
  obtain⟨X,hX⟩:=Nm ((q+1) % 115792089237316195423570985008687907853269984665640564039457584007913129639936)
  obtain⟨ox,hox⟩:=Nm (decide (115792089237316195423570985008687907853269984665640564039457584007913129639936≤q+1))
  rw[← hX,← hox] at HX
  rw[← hq,← hr] at HD
  have hRe:R=X:=by rw[hR2.out,if_neg hno,hX,hq,hN,hV1]
  replace hRe:=Hy hRe
  replace HN:=Hy HN
  replace HD:=Hy HD
  replace HX:=Hy HX
  clear hX hox hq hr hql hN hV1 hno
  go_upto_region 7 with fail
  refine dG [⟨8,7,10,151,fS 0 0 0 0,uc q⟩,⟨9,8,11,151,fS 0 0 0 0,uc r⟩] [] KR KR KR KR KR (by intro e he;cases he) zS (by intro e he;cases he) ?_
  refine dK rfl rfl rfl rfl (c:=.agg (uc t).toArray) (fun w hw=>aE (a4.b hw.nil) _ _ rfl rfl _ 4 rfl SU rfl KR) zZ ?_
  refine jO rfl rfl rfl rfl (c:=.agg (uc N).toArray) 87 #[.agg (uc t).toArray] (fun w=>by go_simp) (fun w hw=>(HN.out w).mono (by rintro e w' ⟨rfl,b⟩;exact⟨rfl,b⟩)) zZ ?_
  refine dK rfl rfl rfl rfl (c:=.agg (uc V).toArray) (fun w hw=>aE (aV.b hw.nil) _ _ rfl rfl _ 4 rfl SU rfl KR) zZ ?_
  refine jO rfl rfl rfl rfl (c:=.tuple #[.agg (uc q).toArray,.agg (uc r).toArray,.bool true]) 86 #[.agg (uc N).toArray,.agg (uc V).toArray] (fun w=>by go_simp) (fun w hw=>(HD.out w).mono (by rintro e w' ⟨rfl,b⟩;exact⟨rfl,b⟩)) zZ ?_
  repeat refine dK rfl rfl rfl rfl vR zZ ?_
  refine mU rfl rfl (fun ρ w=>by unfold execOp;go_simp;rfl) ?_
  refine mU rfl rfl (fun ρ w=>by unfold execOp;go_simp;rfl) ?_
  refine mV rfl rfl (fun w hw=>aC rfl rfl fun v _=>bN rfl (aF fun b hb h0=>?_)) ?_
  ·simp at hb
   subst hb
   exact iY h0 rfl _ _ _ rfl rfl rfl 4 rfl KR rfl
  refine mV rfl rfl (fun w hw=>bN rfl (aC rfl rfl fun v _=>aF fun b hb h0=>?_)) ?_
  ·simp at hb
   subst hb
   exact iY h0 rfl _ _ _ rfl rfl rfl 4 rfl KR rfl
  refine mT rfl rfl rfl rfl _ (.inr rfl) pB zZ ?_
  refine wM fun w5 hw5=>aC rfl rfl fun v _=>aC rfl rfl fun v' _=>aF fun hJ _=>?_
  obtain⟨g7,hb,hB,a7⟩:=hJ.at_ ⟨8,7,10,151,fS 0 0 0 0,uc q⟩ (List.mem_cons_self ..) rfl
  obtain⟨g8,hb',_,_⟩:=hJ.at_ ⟨9,8,11,151,fS 0 0 0 0,uc r⟩ (List.mem_cons_of_mem _ (List.mem_cons_self ..)) rfl
  simp at hb hb'
  subst hb hb'
  replace a7:Av w5 g7 151 (uc q):=a7
  have b5:Below w4.heap.size w4 w5:=hw5.nil
  have c5:=c4.trans (b5.mono (Nat.le_of_lt r4.lt))
  have r5:=r4.b b5
  have g7H:H<g7:=Nat.lt_of_lt_of_le r4.lt hB
  have g7H':H≤g7:=Nat.le_of_lt g7H
  clear hw5 hJ r4 a4 b5 hB c4 aV
  simp only[List.set_cons_succ,List.set_cons_zero]
  go_upto_region 8 with fail
  refine dG [] [oL.one g7 151 6 (uc q) (uc X)] KR KR KR KR KR (by intro e he;simp only[List.mem_cons,List.not_mem_nil,or_false] at he;subst he;exact oL.one_con _ _ _ _ _) zS (by intro e he;simp only[List.mem_cons,List.not_mem_nil,or_false] at he;subst he;exact a7) ?_
  refine OB rfl rfl rfl rfl (c:=.agg (uc q).toArray) (fun w hw hJ=>aE (JN.one hJ (List.mem_cons_self ..) rfl rfl) _ _ rfl rfl _ 4 rfl SU rfl KR) zZ ?_
  refine jO rfl rfl rfl rfl (c:=.agg (uc 1).toArray) 85 #[.int .u64 1] (fun w=>by go_simp) (fun w hw=>(HO.out w).mono (by rintro e w' ⟨rfl,b⟩;exact⟨rfl,b⟩)) zZ ?_
  refine jO rfl rfl rfl rfl (c:=.tuple #[.agg (uc X).toArray,.bool ox]) 60 #[.agg (uc q).toArray,.agg (uc 1).toArray] (fun w=>by go_simp) (fun w hw=>(HX.out w).mono (by rintro e w' ⟨rfl,b⟩;exact⟨rfl,b⟩)) zZ ?_
  repeat refine dK rfl rfl rfl rfl vR zZ ?_
  refine OC rfl rfl rfl rfl (fun w hw=>aF fun f hf h0=>?_) ?_
  ·exact Mf hf h0 rfl _ _ _ rfl rfl rfl 4 rfl KR rfl
  refine wM fun w6 hw6=>aF fun _ hO=>?_
  have a8:Av w6 g7 151 (uc X):=hO (oL.one g7 151 6 (uc q) (uc X)) (List.mem_cons_self ..)
  have c6:=c5.trans (hw6.low (Nat.le_of_lt r5.lt) (by intro e he;simp only[List.mem_cons,List.not_mem_nil,or_false] at he;subst he;exact g7H'))
  have r6:Av w6 H 151 (fS 0 0 0 0):=Fo.av hw6 r5 (by intro e he;simp only[List.mem_cons,List.not_mem_nil,or_false] at he;subst he;simp only[oL.one];omega)
  clear hw6 hO r5 a7 c5
  have hHG:H≤H:=Nat.le_refl _
  go_wp2_with (first
   |((with_reducible refine LH a8 4 SU ?_ ?_);rfl)
   |((with_reducible refine SF c6 r6 hHG (uc X) 4 ?_ ?_ ?_);rfl;rfl;intro w7 a9 b9 k9 z9;clear k9;replace z9:=Hy z9))
  refine bodyPost_ret (results_cell_row rfl _ _ H _ _ (0,0) _ bM a9 SU rfl KR) rfl ⟨by rw[hRe.out],by rw[← hH.out];exact b9⟩
theorem Qk (b:Nat) (hb:b<4294967296) (w:World):
  Calls prog 58 #[.int .u32 (b:Int)] w fun e w'=>e= .returned (.agg (uc (fE b)).toArray)∧Below w.heap.size w w':=by
 cases h:lP b with
 |none=>
  rw[show fE b=0 by rw[fE,h]]
  exact Jn b hb h w
 |some t=>exact GV b t hb h w
open Go.Maps (Keyed)
def gF (n:Nd):List Value:=n.id.map bv++(fC n.head++([.int .i64 n.par,.int .i64 (n.hgt:Int)]++uc n.wrk))
structure uT (n:Nd):Prop where
 id:n.id.length=32
 head:n.head.ok
 wrk:n.wrk<115792089237316195423570985008687907853269984665640564039457584007913129639936
theorem dN {n:Nd} (h:uT n):(gF n).length=106:=by simp[gF,h.id,cJ h.head,uc,fS]
theorem kA (n:Nd):∀ u ∈ gF n,u.oneCell'=true:=by
 intro u hu
 simp only[gF,List.mem_append,List.mem_map,List.mem_cons,List.not_mem_nil,or_false,uc,fS] at hu
 rcases hu with ⟨_,_,rfl⟩|h|(rfl|rfl)|rfl|rfl|rfl|rfl
 ·rfl
 ·exact Bt _ u h
 all_goals rfl
def Cx (ns:List Nd):Prop:=∀ n ∈ ns,uT n
theorem nH.nds {ns:List Nd} (h:nH ns):Cx ns:=by
 intro n hn
 obtain⟨k,hk,rfl⟩:=List.getElem_of_mem hn
 obtain⟨a,b,c⟩:=h.head k _ (List.getElem?_eq_getElem hk)
 exact⟨by rw[b];exact fZ _,a,c⟩
def qF (ns:List Nd):List Value:=ns.flatMap gF
theorem rH {ns:List Nd} (h:Cx ns):(qF ns).length=ns.length*106:=eW gF 106 ns fun e he=>dN (h e he)
theorem FV {α β:Type} {f:α→Option β}:∀ l:List α,(∀ i ∈ l,∃ y,f i=some y)→∃ ys,l.mapM f=some ys
 | [],_=>⟨[],rfl⟩
 |a :: l,h=>by
  obtain⟨y,hy⟩:=h a (List.mem_cons_self ..)
  obtain⟨ys,hys⟩:=FV l fun i hi=>h i (List.mem_cons_of_mem _ hi)
  exact⟨y :: ys,by simp[List.mapM_cons,hy,hys]⟩
theorem Es:prog.cellsOf 35=32∧prog.cellsOf 5=1:=⟨by kernel_rfl,by kernel_rfl⟩
theorem Et:prog.types.size=(prog.types.size - 2)+1+1:=by kernel_rfl
theorem Jo:35<prog.types.size:=of_decide_eq_true KR
theorem Cy (x:List UInt8) (hx:x.length=32):∃ l,keyOf prog 35 (.agg (cK x))=some l:=by
 have h1:prog.keyType 35=true:=by kernel_rfl
 obtain⟨c1,c2⟩:=Es
 have h2:(Value.agg (cK x)).formed prog 35=true:=by
  simp[Value.formed,c1,hx]
 have h3:∃ ls,prog.keyLits (prog.types.size+1) 35 (Value.agg (cK x)).cells.toList=some ls:=by
  rw[Et]
  unfold Program.keyLits
  simp only[SS,Value.cells,c1,c2]
  rw[if_pos (by simp[hx])]
  obtain⟨ys,hys⟩:=FV (f:=fun i=>prog.keyLits (prog.types.size - 2+2) 5 (((x.map bv).drop (i*1)).take 1)) (List.range 32) (by
   intro i hi
   have hi':i<32:=List.mem_range.1 hi
   have e:((x.map bv).drop (i*1)).take 1= [bv (x[i]'OM)]:=by
    rw[Nat.mul_one,List.drop_eq_getElem_cons (by simp[hx];exact hi')]
    simp
   rw[e]
   have:=(x[i]'OM).toNat_lt
   refine⟨[Lit.int .u8 (x[i]'OM).toNat],?_⟩
   unfold Program.keyLits
   simp only[Tl,bv,true_and]
   rw[if_pos (by simp[Lit.wf,IntKind.min,IntKind.max,IntKind.signed,IntKind.bits];omega)])
  exact⟨ys.flatten,by rw[hys];rfl⟩
 obtain⟨ls,hls⟩:=h3
 refine⟨.string (keyBytes ls),?_⟩
 unfold keyOf
 rw[SS]
 simp only
 rw[if_pos (by rw[h1,h2];rfl),hls]
 rfl
theorem Jp:laidOutB prog=true:=by
 kernel_rfl
theorem kT:Keyed prog 35:=by
 exact Keyed.of_law (deep_law_laid Jp (m:=2) OM Jo KR KR)
theorem Eu:∀ {x y:List UInt8},x.map bv=y.map bv→x=y:=by
 intro x
 induction x with
 |nil=>intro y h;cases y <;> simp_all
 |cons a x ih=>
  intro y h
  cases y with
  |nil=>simp at h
  |cons b y=>
   simp only[List.map_cons,List.cons.injEq] at h
   rw[ih h.2]
   congr 1
   have:=h.1
   simp only[bv,Value.int.injEq,true_and] at this
   exact UInt8.toNat_inj.1 OM
def mZ (w:World) (M:Option Nat) (ns:List Nd):Prop:=
 match M with
 |none=>ns= []
 |some b=>∃ (n:Nat) (D:DataW Unit),w.ownsMap prog 35 (plainElem prog 3) b n D∧n≤ns.length∧
  ∀ x l,x.length=32→keyOf prog 35 (.agg (cK x))=some l→Maps.has D l=(bZ ns x).isSome∧D.atKey l (.lit (.int .i64 0))= .lit (.int .i64 ((bZ ns x).getD 0:Nat))
theorem mZ.block {w w':World} {M:Option Nat} {ns:List Nd} (h:mZ w M ns) (hb:∀ b,M=some b→w'.heap[b]? =w.heap[b]?):mZ w' M ns:=by
 cases M with
 |none=>exact h
 |some b=>
  obtain⟨n,D,⟨es,clock,e,r⟩,q⟩:=h
  exact⟨n,D,⟨es,clock,(hb b rfl).trans e,r⟩,q⟩
theorem mZ.lt {w:World} {b:Nat} {ns:List Nd} (h:mZ w (some b) ns):b<w.heap.size:=by
 obtain⟨n,D,o,_⟩:=h
 exact o.lt
theorem mZ.b {w w':World} {M:Option Nat} {ns:List Nd} (h:mZ w M ns) (hb:Below w.heap.size w w'):mZ w' M ns:=
 h.block fun b e=>by subst e;exact hb.block b h.lt
theorem Cz (w:World):(zeroValue 3).run prog w= .ok (.int .i64 0) w:=by kernel_rfl
theorem mZ.look {w:World} {M:Option Nat} {ns:List Nd} (h:mZ w M ns) (x:List UInt8) (hx:x.length=32):
  (Instr.lookup 146 (.map M) (.agg (cK x)) true).run prog w= .ok (.tuple #[.int .i64 ((bZ ns x).getD 0:Nat),.bool (bZ ns x).isSome]) w:=by
 obtain⟨l,hl⟩:=Cy x hx
 cases M with
 |none=>
  have hn:ns= []:=h
  subst hn
  exact Maps.look_nil true kT underlying146 (Cz w) hl
 |some b=>
  obtain⟨n,D,o,_,q⟩:=h
  obtain⟨q1,q2⟩:=q x l hx hl
  obtain⟨v,ps,hrun,hv⟩:=o.look_ok kT underlying146 (Cz w) (zd:=.lit (.int .i64 0)) (plainElem_int Tv DC) hl
  obtain⟨c,rfl,hc,_⟩:=plainElem_int_inv Tv hv
  rw[q2] at hc
  simp only[Prod.mk.injEq,DataW.lit.injEq,Lit.int.injEq,true_and] at hc
  rw[hrun,q1,← hc.1]
theorem mZ.made (w:World):mZ (w.alloc (.map #[] 0)) (some w.heap.size) []:=by
 refine⟨0,.map [],World.ownsMap_made _ _ _ _,Nat.le_refl _,fun x l hx hl=>⟨rfl,rfl⟩⟩
theorem mZ.put {w:World} {b:Nat} {ns:List Nd} (h:mZ w (some b) ns) (hn:ns.length≤1048576) {nd:Nd} (hid:nd.id.length=32) (hf:bZ ns nd.id=none):
  ∃ w',(Instr.mapUpdate 146 (.map (some b)) (.agg (cK nd.id)) (.int .i64 (ns.length:Int))).run prog w= .ok () w'∧mZ w' (some b) (ns++ [nd])∧w.grownBy w' (some b):=by
 obtain⟨l,hl⟩:=Cy nd.id hid
 obtain⟨n,D,o,hle,q⟩:=h
 obtain⟨w',hrun,o',hg⟩:=o.update kT underlying146 (by simp only[maxLen];omega) hl (plainElem_int (q:=.i64) (a:=(ns.length:Int)) Tv (by simp[Lit.wf,IntKind.min,IntKind.max,IntKind.signed,IntKind.bits];omega))
 refine⟨w',hrun,⟨n+1,_,o',by simp;omega,fun x k hx hk=>?_⟩,hg⟩
 have hfs:bZ (ns++ [nd]) x=(bZ ns x).or (if nd.id==x then some ns.length else none):=by
  unfold bZ
  rw[List.findIdx?_append]
  simp[List.findIdx?_cons]
 by_cases e:x=nd.id
 ·subst e
  rw[hl] at hk
  injection hk with hk
  subst hk
  have hm:=o.isMap
  rw[hfs,hf,Maps.has_put_same hm (kT.key hl),Maps.atKey_put_same hm (kT.key hl)]
  simp
 ·have hne:k≠l:=fun e2=>e (by
   subst e2
   have:=kT.inj hk hl
   injection this with this
   have h1:x.map bv=nd.id.map bv:=by simpa [cK] using congrArg Array.toList this
   exact Eu h1)
  rw[hfs,Maps.has_put_other hne,Maps.atKey_put_other hne]
  have:(nd.id==x)=false:=by simpa using Ne.symm e
  rw[this]
  simpa using q x k hx hk
structure Mq (w:World) (R most:Nat) (A:Option Addr) (n c:Nat) (M:Option Nat) (ns:List Nd):Prop where
 av:Av w R 149 [.int .i64 (most:Int),.slice A n c,.map M]
 len:ns.length=n
 small:n≤1048576
 rd:Rd w A (qF ns)
 map:mZ w M ns
 nds:Cx ns
theorem Mq.b {w w':World} {R most:Nat} {A:Option Addr} {n c:Nat} {M:Option Nat} {ns:List Nd} (h:Mq w R most A n c M ns) (b:Below w.heap.size w w'):Mq w' R most A n c M ns:=
 ⟨h.av.b b,h.len,h.small,h.rd.b b,h.map.b b,h.nds⟩
def mB (w:World) (v:Value) (ns:List Nd):Prop:=(v= .pointer none∧ns= [])∨∃ R most A n c M,v= .pointer (some ⟨R,0,none⟩)∧Mq w R most A n c M ns
theorem mB.b {w w':World} {v:Value} {ns:List Nd} (h:mB w v ns) (b:Below w.heap.size w w'):mB w' v ns:=by
 rcases h with h|⟨R,most,A,n,c,M,e,h⟩
 ·exact .inl h
 ·exact .inr ⟨R,most,A,n,c,M,e,h.b b⟩
theorem Mq.adr {w:World} {R most:Nat} {A:Option Addr} {n c:Nat} {M:Option Nat} {ns:List Nd} (h:Mq w R most A n c M ns) (hn:0<n):∃ b off,A=some ⟨b,off,none⟩:=by
 refine h.rd.someA fun e=>?_
 have:=rH h.nds
 rw[e,List.length_nil,h.len] at this
 omega
theorem Mq.nth {w:World} {R most:Nat} {b off:Nat} {n c:Nat} {M:Option Nat} {ns:List Nd} (h:Mq w R most (some ⟨b,off,none⟩) n c M ns) (k:Nat) (nd:Nd) (hk:ns[k]? =some nd):w.rangeAt b (off+k*106) (gF nd)∧uT nd:=
 ⟨Rd.piece gF 106 ns (fun e he=>dN (h.nds e he)) h.rd k nd hk,h.nds nd (List.mem_of_getElem? hk)⟩
theorem CB {P:Program} {t:TypeId} {m k r:Value} {c:Bool} {w:World} (h:(Instr.lookup t m k c).run P w= .ok r w) {o:Oper} {ρ:Operand→Value} {x y:Operand} (ho:o.op= .lookup t x y c) (hx:ρ x=m) (hy:ρ y=k):(execOp ρ o).run P w= .ok (.value r) w:=by
 unfold execOp
 simp[ho,hx,hy,h,Result.andThen]
theorem Ql (v:Value) (ns:List Nd) (w:World) (h:mB w v ns):Calls prog 59 #[v] w fun e w'=>e= .returned (.int .i64 (ns.length:Int))∧w=w':=by
 rcases h with ⟨rfl,rfl⟩|⟨R,most,A,n,c,M,rfl,T⟩
 ·go_enter func59,ntmps59
  go_wp2
  go_ret
  exact⟨rfl,rfl⟩
 ·have c1:=T.av.cell 1 _ rfl
  have hl:=T.len
  rw[hl]
  clear T hl
  go_enter func59,ntmps59
  go_wp2
  go_ret
  exact⟨rfl,rfl⟩
theorem Ae (v:Value) (ns:List Nd) (x:List UInt8) (hx:x.length=32) (w:World) (h:mB w v ns):Calls prog 45 #[v,.agg (cK x)] w fun e w'=>e= .returned (.tuple #[.int .i64 ((bZ ns x).getD 0:Nat),.bool (bZ ns x).isSome])∧Below w.heap.size w w':=by
 obtain⟨W,hW⟩:=Nm (w.alloc (.cells (cK x) 35))
 obtain⟨H,hH⟩:=Nm (w.heap.size)
 refine Xm90 ?_;intro bW
 have aX:Av W H 35 (x.map bv):=by rw[hW,hH];exact heap_alloc_new _ _
 replace hW:=Hy hW
 replace hH:=Hy hH
 obtain⟨K,hK⟩:=Nm ((bZ ns x).getD 0)
 obtain⟨E,hE⟩:=Nm ((bZ ns x).isSome)
 rw[← hK,← hE]
 rcases h with ⟨rfl,rfl⟩|⟨R,most,A,n,c,M,rfl,T⟩
 ·have k0:K=0:=hK
  have e0:E=false:=hE
  subst k0 e0
  clear hK hE
  go_enter func45,ntmps45
  go_upto_region 1 with fail
  rw[← hW.out,← hH.out]
  go_wp2
  go_ret2
  exact⟨rfl,bW⟩
 ·replace hK:=Hy hK
  replace hE:=Hy hE
  go_enter func45,ntmps45
  go_upto_region 1 with fail
  rw[← hW.out,← hH.out]
  go_upto_region 3 with fail
  refine ZR ?_
  repeat first|refine ZP (fun w hw=>by have:=(T.av.b (bW.trans (hw.drew.mono bW.size))).cell 2 _ rfl;exact zG) ?_|refine ZP (c:=.agg (cK x)) (fun w hw=>aE (l:=x.map bv) (aX.b hw.drew) _ _ rfl rfl _ 32 (by rw[List.length_map];exact hx) SS rfl KR) ?_|refine ZP (c:=.tuple #[.int .i64 ((K:Nat):Int),.bool E]) (fun w hw=>CB (by have:=(T.map.b (bW.trans (hw.drew.mono bW.size))).look x hx;rwa [← hK.out,← hE.out] at this) rfl rfl rfl) ?_
  refine bO fun w5 hw5=>aF ?_
  have b5:=bW.trans (hw5.drew.mono bW.size)
  go_wp2
  go_ret2
  exact⟨rfl,b5⟩
end Go.Proofs.YtobjgebojhjhnaaGreatDoor
namespace Go.Proofs.YtobjgebojhjhnaaGreatDoor
set_option maxRecDepth 100000
set_option maxHeartbeats 16000000
open Go.RowKit Tryz
def dO:Nd:=⟨List.replicate 32 0,⟨0,List.replicate 32 0,List.replicate 32 0,0,0,0⟩,0,0,0⟩
def Ea:Array Value:=(gF dO).toArray
theorem BA:Ea≠ #[]:=by
 intro h
 have:=congrArg Array.size h
 revert this
 decide
theorem QY (w:World):(zeroValue 154).run prog w= .ok (.agg Ea) w:=by
 obtain⟨i0,hi,hz⟩:=Option.map_eq_some_iff.1 (show (prog.info? 154).map (·.zero)=some (some (.agg Ea)) by kernel_rfl)
 simp[zeroValue,typeInfo,hi,hz]
theorem wT:zeroCells154=Ea:=by kernel_rfl
attribute [local go_sem high] QY wT
attribute [local simp] BA
theorem Rx (a:Act) (w':World) (d tp pos af):(execOp a.eval ⟨d,.build 154 #[],tp,pos,af,none⟩).run prog w'= .ok (.value (.agg Ea)) w':=by
 kernel_rfl
theorem tN:(gF dO).length=106:=by rfl
theorem FW:(gF dO).all (·.oneCell')=true:=by rfl
theorem cF {P:Program} {ty:TypeId} {parts:Array (Nat × Operand)} {ops:Array Oper} {rest:List Oper} {a:Act} {w:World} {Q:Exit→Act→World→Prop} {d tp pos af} (v:Value) (h:(execOp a.eval ⟨d,.build ty parts,tp,pos,af,none⟩).run P w= .ok (.value v) w) (k:wpList P ops Q rest (a.put d v) w):wpList P ops Q (⟨d,.build ty parts,tp,pos,af,none⟩ :: rest) a w:=
 eF rfl h k
def Ag (ns:List Nd) (i:Int):Value:=match (if 0≤i then ns[i.toNat]? else none) with
 |some n=>.tuple #[.agg (gF n).toArray,.bool true]
 |none=>.tuple #[.agg Ea,.bool false]
theorem tO {ns:List Nd} {i:Nat} {n:Nd} (h:ns[i]? =some n):Ag ns (i:Int)= .tuple #[.agg (gF n).toArray,.bool true]:=by
 unfold Ag
 rw[if_pos OM,Int.toNat_natCast,h]
theorem Ai {ns:List Nd} {i:Int} (h:¬ (0≤i∧i<ns.length)):Ag ns i= .tuple #[.agg Ea,.bool false]:=by
 unfold Ag
 by_cases h0:0≤i
 ·rw[if_pos h0,List.getElem?_eq_none OM]
 ·rw[if_neg h0]
theorem Xc85 {p:Prop} (h:p:=by
 go_wp2_with (first
  |(with_reducible refine cF (.agg Ea) (Rx _ _ _ _ _ _) ?_)
  |((with_reducible refine SF bW aR hHw (gF dO) 106 ?_ ?_ ?_ (hn:=tN) (h1:=one5.out));rfl;rfl;intro w5 a5 b5 k5 z5;clear k5;replace z5:=Hy z5))
 refine bodyPost_ret (v:=.tuple #[.agg Ea,.bool false]) ((aK (C:=gF dO) bM bM a5 _ Tr rfl 106 tN KR).trans bM) bM ⟨rfl,b5⟩):p:=h
theorem CC (v:Value) (ns:List Nd) (i:Int) (hi: -9223372036854775808≤i∧i≤9223372036854775807) (w:World) (h:mB w v ns):Calls prog 111 #[v,.int .i64 i] w fun e w'=>e= .returned (Ag ns i)∧Below w.heap.size w w':=by
 obtain⟨W,hW⟩:=Nm (w.alloc (.cells Ea 154))
 obtain⟨H,hH⟩:=Nm (w.heap.size)
 refine Xm90 ?_;intro bW
 have aR:Av W H 154 (gF dO):=by rw[hW,hH];exact heap_alloc_new _ _
 have hHw:w.heap.size≤H:=by rw[hH];exact Nat.le_refl _
 have HL:=Ql v ns W (h.b bW)
 replace hW:=Hy hW
 replace hH:=Hy hH
 obtain⟨Z,hZ⟩:=Nm (Ag ns i)
 rw[← hZ]
 obtain⟨n,hn⟩:=Nm (ns.length)
 rw[← hn] at HL
 replace HL:=Hy HL
 by_cases hin:0≤i∧i<ns.length
 ·rcases h with ⟨rfl,rfl⟩|⟨R,most,A,m,c,M,rfl,T⟩
  ·simp at hin;omega
  ·obtain⟨k,rfl⟩:∃ k:Nat,i=(k:Int):=⟨i.toNat,by omega⟩
   obtain⟨nd,hnd⟩:∃ nd,ns[k]? =some nd:=⟨_,List.getElem?_eq_getElem OM⟩
   rw[tO hnd] at hZ
   subst hZ
   have hlm:=T.len
   obtain⟨b,off,rfl⟩:=T.adr OM
   have T2:=T.b bW
   have c1:=T2.av.cell 1 _ rfl
   obtain⟨rg,nok⟩:=T2.nth k nd hnd
   have l106:=Hy (dN nok)
   have one5:=Hy (List.all_eq_true.2 (kA nd))
   have t0:decide ((k:Int)<0)=false:=by simp
   have t1:decide ((n:Int)≤(k:Int))=false:=by simp;omega
   have t2:decide (n≤k)=false:=by simp;omega
   have m1:(k:Int)<(m:Int):=by omega
   have m0:(0:Int)≤(k:Int):=by omega
   replace rg:=Hy rg
   replace hnd:=Hy hnd
   clear T T2 hi hin hlm nok hn
   go_enter func111,ntmps111
   go_upto_region 1 with fail
   rw[← hW.out,← hH.out]
   go_upto_region 3 with (go_at_call 59;refine(HL.out).mono ?_;rintro e w2 ⟨rfl,rfl⟩)
   go_wp2_with (first
    |((with_reducible refine LM rg.out Tr ?_ ?_ (hi:=by rw[l106.out];kernel_rfl));rfl)
    |((with_reducible refine SF bW aR hHw (gF nd) 106 ?_ ?_ ?_ (hn:=l106.out) (h1:=one5.out));rfl;rfl;intro w5 a5 b5 k5 z5;clear k5;replace z5:=Hy z5))
   refine bodyPost_ret (v:=.tuple #[.agg (gF nd).toArray,.bool true]) ((aK (C:=gF nd) bM bM a5 _ Tr rfl 106 l106.out KR).trans bM) bM ⟨rfl,b5⟩
 ·rw[Ai hin] at hZ
  subst hZ
  have one5:=Hy FW
  have hz:Ea=(gF dO).toArray:=rfl
  replace hz:=Hy hz
  by_cases h0:i<0
  ·have t0:decide (i<0)=true:=by simpa using h0
   clear hi hin hn h
   go_enter func111,ntmps111
   go_upto_region 1 with fail
   rw[← hW.out,← hH.out]
   exact Xc85
  ·have t0:decide (i<0)=false:=by simpa using h0
   have t1:decide ((n:Int)≤i)=true:=by simp;omega
   clear hi hin hn h
   go_enter func111,ntmps111
   go_upto_region 1 with fail
   rw[← hW.out,← hH.out]
   go_upto_region 2 with (go_at_call 59;refine(HL.out).mono ?_;rintro e w2 ⟨rfl,rfl⟩)
   exact Xc85
theorem sR {n:Nd} (h:uT n):(gF n)[100]? =some (.int .i64 n.par)∧(gF n)[101]? =some (.int .i64 (n.hgt:Int)):=by
 have h1:=h.id
 have h2:=cJ h.head
 constructor <;>
 ·unfold gF
  rw[List.getElem?_append_right (by simp[h1]),List.getElem?_append_right (by simp[h1,h2])]
  simp[h1,h2]
theorem vY {w:World} {b o:Nat} {n:Nd} (h:uT n) (r:w.rangeAt b o (gF n)):w.rangeAt b (o+102) (uc n.wrk):=fun j u hu=>by
 have h1:=h.id
 have h2:=cJ h.head
 have:=r (102+j) u (by
  unfold gF
  rw[List.getElem?_append_right (by simp[h1];omega),List.getElem?_append_right (by simp[h1,h2];omega),List.getElem?_append_right (by simp[h1,h2];omega)]
  simp only[List.length_map,h1,h2,List.length_cons,List.length_nil]
  rw[show 102+j - 32 - 68 - (0+1+1)=j by omega]
  exact hu)
 rw[Nat.add_assoc]
 exact this
theorem tP {w:World} {b o i:Nat} {cs:List Value} {u:Value} (r:w.rangeAt b o cs) (h:cs[i]? =some u):w.cell? ⟨b,o+i,none⟩=some u:=r i u h
def nA (ns:List Nd) (i h:Int):Value:=if 0≤i∧i<ns.length∧0≤h∧h≤dP ns i.toNat then .tuple #[.int .i64 (jE ns i.toNat (dP ns i.toNat - h.toNat):Nat),.bool true] else .tuple #[.int .i64 0,.bool false]
theorem rJ {ns:List Nd} {i:Nat} {n:Nd} (h:ns[i]? =some n):dP ns i=n.hgt:=(OI h).2.1
theorem nH.par {ns:List Nd} (ok:nH ns) {i:Nat} {n:Nd} (h:ns[i]? =some n) (h0:i≠0):n.par=(tK ns i:Int):=by
 obtain⟨p,m,e1,_⟩:=ok.step i n h h0
 rw[(OI h).1,e1]
 rfl
theorem Ew (v:Value) (ns:List Nd) (ok:nH ns) (i h:Int) (hi: -9223372036854775808≤i∧i≤9223372036854775807) (w:World) (ht:mB w v ns):Calls prog 112 #[v,.int .i64 i,.int .i64 h] w fun e w'=>e= .returned (nA ns i h)∧Below w.heap.size w w':=by
 have HN:=CC v ns i hi w ht
 obtain⟨Z,hZ⟩:=Nm (nA ns i h)
 rw[← hZ]
 by_cases hin:0≤i∧i<ns.length
 ·obtain⟨k,rfl⟩:∃ k:Nat,i=(k:Int):=⟨i.toNat,by omega⟩
  have hkl:k<ns.length:=by omega
  obtain⟨nd,hnd⟩:∃ nd,ns[k]? =some nd:=⟨_,List.getElem?_eq_getElem hkl⟩
  rw[tO hnd] at HN
  have hth:=rJ hnd
  rcases ht with ⟨rfl,rfl⟩|⟨R,most,A,n,c,M,rfl,T⟩
  ·simp at hkl
  ·have hlen:=T.len
   have hn0:0<n:=by omega
   obtain⟨b,off,rfl⟩:=T.adr hn0
   have nok:=T.nds nd (List.mem_of_getElem? hnd)
   have l106:=Hy (dN nok)
   have one2:=Hy (List.all_eq_true.2 (kA nd))
   obtain⟨_,q101⟩:=sR nok
   have hhs:nd.hgt<1048576:=by
    have:=ok.hgt_le hkl
    have:=T.small
    omega
   obtain⟨G,hG⟩:=Nm (nd.hgt)
   rw[← hG] at hth q101 hhs
   replace HN:=Hy HN
   replace hG:=Hy hG
   replace q101:=Hy q101
   replace hnd:=Hy hnd
   replace hlen:=Hy hlen
   clear nok
   by_cases hh:0≤h∧h≤(G:Int)
   ·obtain⟨q,rfl⟩:∃ q:Nat,h=(q:Int):=⟨h.toNat,by omega⟩
    have hZ2:Z= .tuple #[.int .i64 (jE ns k (G - q):Nat),.bool true]:=by
     rw[hZ,nA]
     simp only[Int.toNat_natCast,hth]
     rw[if_pos OM]
    have t0:decide ((q:Int)<0)=false:=by simp
    have t1:decide ((G:Int)<(q:Int))=false:=by simp;omega
    have t1':decide (G<q)=false:=by simp;omega
    have hqG:q≤G:=by omega
    replace hth:=Hy hth
    replace hZ2:=Hy hZ2
    clear hin hi hh hZ
    go_enter func112,ntmps112
    go_upto_region 2 with (first
   |(go_at_call 111;refine(HN.out).mono ?_;rintro e w1 ⟨rfl,b1⟩)
   |((with_reducible refine SN (gF nd) 106 ?_ ?_ ?_ (hn:=l106.out) (h1:=one2.out));rfl;rfl;intro w2 a2 b2 k2 z2;clear k2;replace z2:=Hy z2))
    have b3:=b1.trans (b2.mono b1.size)
    have c101:=a2.cell 101 _ q101.out
    clear a2 b1 b2
    go_upto_region 4 with fail
    clear c101
    go_loopw [1] (fun iv wr=>∃ d:Nat,d≤G - q∧iv= .int .i64 (jE ns k d:Nat)∧Below w.heap.size w wr) (fun iv _=>(intOf iv).toNat)
    case atStart=>exact⟨0,by omega,rfl,b3⟩
    case round=>
     obtain⟨d,hd,rfl,bw⟩:=hrel
     have hle:d≤dP ns k:=by rw[hth.out];omega
     obtain⟨p1,p2,p3⟩:=ok.anc hkl d hle
     rw[hth.out] at p2
     obtain⟨j,hj⟩:=Nm (jE ns k d)
     rw[← hj] at p1 p2 p3 ⊢
     obtain⟨x,hx⟩:∃ x,ns[j]? =some x:=⟨_,List.getElem?_eq_getElem p1⟩
     obtain⟨r1,r2⟩:=(T.b bw).nth j x hx
     obtain⟨c100,c101⟩:=sR r2
     have c100:=tP r1 c100
     have c101:=tP r1 c101
     have c1:=(T.b bw).av.cell 1 _ rfl
     have hxh:x.hgt=G - d:=by rw[← rJ hx];exact p2
     have m0:(0:Int)≤(j:Int):=by omega
     have m1:(j:Int)<(n:Int):=by have:=hlen.out;omega
     obtain⟨X,hX⟩:=Nm (x.hgt)
     rw[← hX] at hxh c101
     replace hX:=Hy hX
     clear r1 r2
     by_cases hgt:d<G - q
     ·have u1:decide ((q:Int)<(X:Int))=true:=by simp;omega
      have u1':decide (q<X)=true:=by simp;omega
      have hj0:j≠0:=by
       intro e
       have:=(ok.hgt_0 p1).2 e
       omega
      have hpar:=ok.par hx hj0
      have hlt:tK ns j<j:=by
       rcases ok.up p1 with ⟨_,e⟩|⟨_,e,_⟩
       ·exact absurd e hj0
       ·exact e
      have hnx:jE ns k (d+1)=tK ns j:=by rw[jE,← hj]
      obtain⟨Y,hY⟩:=Nm (tK ns j)
      rw[← hY] at hpar hlt hnx
      rw[hpar] at c100
      replace hpar:=Hy hpar
      replace hY:=Hy hY
      replace hnx:=Hy hnx
      replace hj:=Hy hj
      replace hx:=Hy hx
      replace p2:=Hy p2
      replace hxh:=Hy hxh
      clear hle p3
      go_wp2
      refine⟨⟨d+1,by omega,by rw[hnx.out],bw⟩,?_⟩
      simp[intOf];omega
     ·obtain rfl:d=G - q:=by omega
      have u1:decide ((q:Int)<(X:Int))=false:=by simp;omega
      have u1':decide (q<X)=false:=by simp;omega
      replace hj:=Hy hj
      replace hx:=Hy hx
      replace p2:=Hy p2
      replace hxh:=Hy hxh
      clear hle p3 hgt
      go_wp2
      go_ret2
      refine⟨?_,bw⟩
      rw[hZ2.out,← hj.out]
      rfl
   ·have hZ2:Z= .tuple #[.int .i64 0,.bool false]:=by
     rw[hZ,nA]
     simp only[Int.toNat_natCast,hth]
     rw[if_neg OM]
    subst hZ2
    by_cases h0:h<0
    ·have t0:decide (h<0)=true:=by simpa using h0
     clear hin hi hh hZ hth
     go_enter func112,ntmps112
     go_upto_region 2 with (first
   |(go_at_call 111;refine(HN.out).mono ?_;rintro e w1 ⟨rfl,b1⟩)
   |((with_reducible refine SN (gF nd) 106 ?_ ?_ ?_ (hn:=l106.out) (h1:=one2.out));rfl;rfl;intro w2 a2 b2 k2 z2;clear k2;replace z2:=Hy z2))
     have b3:=b1.trans (b2.mono b1.size)
     go_wp2
     go_ret2
     exact⟨rfl,b3⟩
    ·have t0:decide (h<0)=false:=by simpa using h0
     have t1:decide ((G:Int)<h)=true:=by simp;omega
     clear hin hi hh hZ hth
     go_enter func112,ntmps112
     go_upto_region 2 with (first
   |(go_at_call 111;refine(HN.out).mono ?_;rintro e w1 ⟨rfl,b1⟩)
   |((with_reducible refine SN (gF nd) 106 ?_ ?_ ?_ (hn:=l106.out) (h1:=one2.out));rfl;rfl;intro w2 a2 b2 k2 z2;clear k2;replace z2:=Hy z2))
     have b3:=b1.trans (b2.mono b1.size)
     have c101:=a2.cell 101 _ q101.out
     go_wp2
     go_ret2
     exact⟨rfl,b3⟩
 ·rw[Ai hin] at HN
  have hZ2:Z= .tuple #[.int .i64 0,.bool false]:=by rw[hZ,nA,if_neg (fun q=>hin ⟨q.1,q.2.1⟩)]
  subst hZ2
  have one2:=Hy FW
  replace HN:=Hy HN
  clear hin hi hZ
  go_enter func112,ntmps112
  go_upto_region 2 with (first
   |(go_at_call 111;refine(HN.out).mono ?_;rintro e w1 ⟨rfl,b1⟩)
   |((with_reducible refine SN (gF dO) 106 ?_ ?_ ?_ (hn:=tN) (h1:=one2.out));rfl;rfl;intro w2 a2 b2 k2 z2;clear k2;replace z2:=Hy z2))
  have b3:=b1.trans (b2.mono b1.size)
  go_wp2
  go_ret2
  exact⟨rfl,b3⟩
end Go.Proofs.YtobjgebojhjhnaaGreatDoor
namespace Go.Proofs.YtobjgebojhjhnaaGreatDoor
open Go.RowKit Tryz
attribute [local go_sem] QY
attribute [local simp] BA
def iv (k:Nat):Value:=.int .i64 (k:Int)
theorem Jq:(prog.info? 3).map (fun i=>(i.zero,i.size,i.bytes))=some (some (.int .i64 0),1,8):=by kernel_rfl
theorem Aj:(prog.info? 3).map (·.size)=some 1:=by kernel_rfl
def CE (w:World) (v:Value) (l:List Nat):Prop:=∃ A n c,v= .slice A n c∧l.length=n∧Rd w A (l.map iv)
theorem CE.b {w w':World} {v:Value} {l:List Nat} (h:CE w v l) (b:Below w.heap.size w w'):CE w' v l:=by
 obtain⟨A,n,c,e,hl,r⟩:=h
 exact⟨A,n,c,e,hl,r.b b⟩
theorem tQ {w0 w:World} {base:Nat} {v:Value} {xs:List Nat} {n:Nat} (hown:w.ownsRow base 3 1 v n (xs.map iv)) (hb:Below base w0 w) (hbase:base≤w.heap.size)
  (k0:Nat) (hm:n+1≤1000000000)
  {ops:Array Oper} {rest:List Oper} {o:Oper} {a:Act} {Q:Exit→Act→World→Prop} (hgd:o.guard=none) (s x:Operand)
  (ho:o.op= .call {callee:=.builtin .append,args:=#[s,x],argTypes:=#[228,228]})
  (hs:a.eval s=v) (hx:a.eval x= .slice (some ⟨w.heap.size,0,none⟩) 1 1)
  (h:∀ v' w',w'.ownsRow base 3 1 v' (n+1) ((xs++ [k0]).map iv)→Below base w0 w'→w.heap.size≤w'.heap.size→wpList prog ops Q rest (a.put o.dst v') w'):wpList prog ops Q (o :: rest) a (w.alloc (.cells #[iv k0] 3)):=by
 obtain⟨i0,hi,hz0,hz1,hz2⟩:=info_parts Jq
 refine iU _ hgd s x 228 ho base 3 i0 (.int .i64 0) 1 8 underlying228 hi hz0 hz1 hz2 rfl DC v n (xs.map iv) hs (World.ownsRow.alloc hown _)
  (some ⟨w.heap.size,0,none⟩) 1 1 [iv k0] hx rfl (Rd.one _ _ _) (by intro u hu;simp at hu;subst hu;rfl) (by simp only[maxLen];omega) OM zU ?_
 intro v' w' h1 h2 h3
 have hlt:=fun k hk=>(World.ownsRow.lt (World.ownsRow.alloc hown (.cells #[iv k0] 3)) k hk).1
 refine h v' w' (by simpa using h1) ((hb.alloc hbase _).grown h2 zU hlt) (by have:=h2.size;simp at this;omega)
theorem Ex {w:World} {base:Nat} {v:Value} {n:Nat} {xs:List Nat} (h:w.ownsRow base 3 1 v n (xs.map iv)):CE w v xs:=by
 have hl:=h.1
 rcases h.2 with ⟨e,e0⟩|⟨g,cap,cur,e,hb,hg,_⟩
 ·have:xs= []:=by
   subst e0
   simpa using hl
  subst this
  exact⟨none,0,0,e,rfl,.inl rfl⟩
 ·refine⟨some ⟨g,0,none⟩,n,cap,e,by simpa using hl,.inr ⟨g,0,rfl,fun j u hu=>?_⟩⟩
  have:=h.cells (g:=g) (by rw[e];rfl) j u hu
  rwa [iM] at this
def nB (ns:List Nd) (i:Int):List Nat:=if 0≤i∧i<ns.length then wS ns i.toNat else []
def Sp (ns:List Nd) (i q:Nat):List Value:=List.replicate (dP ns i+1 - q) (.int .i64 0)++((wS ns i).drop (dP ns i+1 - q)).map iv
end Go.Proofs.YtobjgebojhjhnaaGreatDoor
