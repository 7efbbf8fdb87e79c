import Derived.Test.YtobjgebojhjhnaaGreatDoorQr9
import Derived.Deep.QuietTactic
import Derived.BigQuiet
namespace Go.Proofs.YtobjgebojhjhnaaGreatDoor
set_option maxRecDepth 100000
set_option maxHeartbeats 16000000
open Go.RowKit Tryz
def lV (a b i:Nat):Nat:=a / 2 ^ i / b*2 ^ i
def mH (a b i:Nat):Nat:=a / 2 ^ i % b
theorem NF (a b i:Nat) (hb:0<b) (_:b<115792089237316195423570985008687907853269984665640564039457584007913129639936):
  ∃ V,V=2*mH a b (i+1)+a / 2 ^ i % 2∧V<2*b∧
  (V<b→mH a b i=V∧lV a b i=lV a b (i+1))∧(b≤V→mH a b i=V - b∧lV a b i=lV a b (i+1)+2 ^ i):=by
 unfold lV mH
 obtain⟨x,hx⟩:=Nm (a / 2 ^ i)
 have h1:a / 2 ^ (i+1)=x / 2:=by rw[Nat.pow_succ,← Nat.div_div_eq_div_mul,hx]
 rw[h1,← hx]
 obtain⟨P,hP⟩:=Nm (2 ^ i)
 rw[Nat.pow_succ,← hP]
 have hy:=Nat.div_add_mod (x / 2) b
 have hyl:=Nat.mod_lt (x / 2) hb
 have hx2:=Nat.div_add_mod x 2
 generalize x / 2 / b=q at*
 generalize x / 2 % b=r at*
 have hm:x % 2<2:=Nat.mod_lt _ OM
 generalize x % 2=m at*
 have hxe:x=b*(2*q)+(2*r+m):=by
  rw[← hx2,← hy,Nat.mul_add]
  have:2*(b*q)=b*(2*q):=by rw[Nat.mul_left_comm]
  omega
 refine⟨2*r+m,rfl,by omega,fun h=>?_,fun h=>?_⟩
 ·have e1:x / b=2*q:=by rw[hxe,Nat.mul_add_div hb,Nat.div_eq_of_lt h,Nat.add_zero]
  have e2:x % b=2*r+m:=by rw[hxe,Nat.mul_add_mod,Nat.mod_eq_of_lt h]
  rw[e1,e2]
  refine⟨rfl,?_⟩
  rw[Nat.mul_comm 2 q,Nat.mul_assoc,Nat.mul_comm 2 P]
 ·have hxe2:x=b*(2*q+1)+(2*r+m - b):=by
   rw[hxe,Nat.mul_add,Nat.mul_one];omega
  have e1:x / b=2*q+1:=by rw[hxe2,Nat.mul_add_div hb,Nat.div_eq_of_lt (show 2*r+m - b<b by omega),Nat.add_zero]
  have e2:x % b=2*r+m - b:=by rw[hxe2,Nat.mul_add_mod,Nat.mod_eq_of_lt (show 2*r+m - b<b by omega)]
  rw[e1,e2]
  refine⟨rfl,?_⟩
  rw[Nat.add_mul,Nat.one_mul,Nat.mul_comm 2 q,Nat.mul_assoc,Nat.mul_comm 2 P]
theorem IV (a b n:Nat) (h:a<2 ^ n):lV a b n=0∧mH a b n=0:=by
 unfold lV mH
 rw[Nat.div_eq_of_lt h];simp
theorem Oq (a b:Nat):lV a b 0=a / b∧mH a b 0=a % b:=by simp[lV,mH]
theorem Be (a b i:Nat) (hb:0<b):mH a b i<b:=Nat.mod_lt _ hb
theorem LY (a b i:Nat):lV a b i≤a:=Nat.le_trans (Nat.mul_le_mul_right _ (Nat.div_le_self _ _)) (Nat.div_mul_le_self _ _)
theorem Ct (a b i:Nat):lV a b i % 2 ^ i=0:=Nat.mul_mod_left _ _
theorem zX (n i:Nat) (h:n % 2 ^ (i+1)=0):n+2 ^ i=n |||2 ^ i:=by
 have e:=Nat.div_add_mod n (2 ^ (i+1))
 rw[h,Nat.add_zero] at e
 rw[← e]
 exact Nat.two_pow_add_eq_or_of_lt (Nat.pow_lt_pow_right OM OM) _
theorem FL (n i:Nat) (h:n % 2 ^ (i+1)=0) (j:Nat):lim (n+2 ^ i) j=if j=i / 64 then lim n j |||2 ^ (i % 64) else lim n j:=by
 apply Nat.eq_of_testBit_eq
 intro k
 rw[zX n i h,iC,Nat.testBit_or,Nat.testBit_two_pow]
 split
 ·rename_i e
  subst e
  rw[Nat.testBit_or,iC,Nat.testBit_two_pow]
  by_cases hk:k<64
  ·have:(i=64*(i / 64)+k)↔(i % 64=k):=by omega
   simp[hk,this]
  ·have:i % 64≠k:=by omega
   simp[hk,this]
 ·rw[iC]
  by_cases hk:k<64
  ·have:i≠64*j+k:=by omega
   simp[hk,this]
  ·simp[hk]
theorem LZ (n i:Nat):lim n (i / 64) / 2 ^ (i % 64) % 2=n / 2 ^ i % 2:=by
 have h:=iC n (i / 64) (i % 64)
 rw[Nat.testBit_eq_decide_div_mod_eq,Nat.testBit_eq_decide_div_mod_eq,show 64*(i / 64)+i % 64=i by omega] at h
 have h1:i % 64<64:=Nat.mod_lt _ OM
 simp only[h1,decide_true,Bool.true_and,decide_eq_decide] at h
 omega
theorem NG (D t:Nat) (hD:D % 2=0) (ht:t<2):(uc D).set 0 (.int .u64 ((lim D 0 |||t:Nat):Int))=uc (D+t):=by
 have h:t=0∨t=1:=by omega
 rcases h with rfl|rfl
 ·simp[uc,fS]
 ·have h:=fun j=>FL D 0 (by simpa using hD) j
  simp only[Nat.pow_zero,Nat.zero_div,Nat.zero_mod] at h
  simp[uc,fS,h]
theorem IW (Q k:Nat) (hQ:Q % 2 ^ (k+1)=0) (hk:k<256):(uc Q).set (k / 64) (.int .u64 ((lim Q (k / 64) |||2 ^ (k % 64):Nat):Int))=uc (Q+2 ^ k):=by
 have h:=fun j=>FL Q k hQ j
 have hj:k / 64=0∨k / 64=1∨k / 64=2∨k / 64=3:=by omega
 rcases hj with e|e|e|e <;> rw[e] at h ⊢ <;> simp[uc,fS,h]
theorem qL {fn:Func} {p q u:Tmp} {ty:TypeId} (h:fn.results= #[.cell p ty,.cell q ty,.tmp u]) {tmps:Array Value} {P:Program} {w:World} {g g':Nat} {t t':TypeId} {C C':List Value} (hp:tmps.getD p undef= .pointer (some ⟨g,0,none⟩)) (hq:tmps.getD q undef= .pointer (some ⟨g',0,none⟩)) (ha:Av w g t C) (hb:Av w g' t' C') {d:TypeDesc} (hu:P.underlying ty=some d) (hd:d.isRow=true)
  (n:Nat) (hn:C.length=n) (hn':C'.length=n) (hi:(P.info? ty).map (·.size)=some n):
  (results fn tmps).run P w= .ok (.tuple #[.agg C.toArray,.agg C'.toArray,tmps.getD u undef]) w:=by
 simp only[results,h]
 simp only[Array.getD_eq_getD_getElem?] at hp hq ⊢
 simp[hp,hq,asAddr,run_loadVar_row w g t ty _ _ d ha hu (by cases d <;> first|rfl|(simp[TypeDesc.isRow] at hd)) (by rw[List.size_toArray,hn];exact hi),run_loadVar_row w g' t' ty _ _ d hb hu (by cases d <;> first|rfl|(simp[TypeDesc.isRow] at hd)) (by rw[List.size_toArray,hn'];exact hi),Result.andThen]
structure Dv (w:World) (H:Nat) (x y q l:List Value):Prop where
 v0:Av w H 151 x
 v1:Av w (H+1) 151 y
 v2:Av w (H+2) 151 (fS 0 0 0 0)
 v3:Av w (H+3) 151 (fS 0 0 0 0)
 v4:Av w (H+4) 151 q
 v5:Av w (H+5) 151 l
theorem Dv.b {w w':World} {H:Nat} {x y q l:List Value} (h:Dv w H x y q l) (b:Below w.heap.size w w'):Dv w' H x y q l:=
 ⟨h.v0.b b,h.v1.b b,h.v2.b b,h.v3.b b,h.v4.b b,h.v5.b b⟩
theorem Dv.put5 {w w':World} {H:Nat} {x y q l l':List Value} (h:Dv w H x y q l) (k:∀ j,j≠H+5→w'.heap[j]? =w.heap[j]?) (a:Av w' (H+5) 151 l'):Dv w' H x y q l':=
 ⟨h.v0.same (k _ OM),h.v1.same (k _ OM),h.v2.same (k _ OM),h.v3.same (k _ OM),h.v4.same (k _ OM),a⟩
theorem Dv.fr5 {w w':World} {H:Nat} {x y q l l':List Value} (h:Dv w H x y q l) (k:Fr (fun j=>j=H+5) w w') (a:Av w' (H+5) 151 l'):Dv w' H x y q l':=
 ⟨k.av h.v0 OM,k.av h.v1 OM,k.av h.v2 OM,k.av h.v3 OM,k.av h.v4 OM,a⟩
theorem Dv.fr4 {w w':World} {H:Nat} {x y q l q':List Value} (h:Dv w H x y q l) (k:Fr (fun j=>j=H+4) w w') (a:Av w' (H+4) 151 q'):Dv w' H x y q' l:=
 ⟨k.av h.v0 OM,k.av h.v1 OM,k.av h.v2 OM,k.av h.v3 OM,a,k.av h.v5 OM⟩
theorem Xc41 {p:Prop} (h:p:=by
 have d11:=d12.put5 k11 a11
 clear k11 a11 d12 e12 c12
 refine bL 9 [] cI KR KR KR KR KR cI.refl cI.trans zI ?_
 repeat refine ZP (fun w hw=>by have:=q1.out;have:=q0;have:=q1w.out;have:=q2;have:=q3;have:=(d11.v4.b hw.drew).cell j _ gQ.out;have:=q4.out;have:=q4w.out;have:=q5;have:=q6;have:=q10.out;have:=q11.out;exact zG) ?_
 refine bO fun w13 hw13=>aF ?_
 simp only[List.drop_succ_cons,List.drop_zero]
 have d13:=d11.b hw13.drew
 have b13:=b11.trans (hw13.drew.mono b11.size)
 ((with_reducible refine cR 92 d13.v4 hQl .u64 (Q1:Int) ?_ ?_ oG ?_);rfl;rfl;intro w14 a14 f14)
 rw[hQs.out] at a14
 have d14:=d13.fr4 f14 a14
 have b14:=b13.trans (f14.b (B:=w.heap.size) (fun j hj=>by omega) b13.size)
 clear a14 f14 d13 d11 hw13 b13
 go_wp2
 refine⟨⟨k,by omega,rfl,by rw[eQ.out,eL.out];exact d14,b14⟩,?_⟩
 simp[intOf]):p:=h
theorem Rn (a b:Nat) (ha:a<115792089237316195423570985008687907853269984665640564039457584007913129639936) (hb:b<115792089237316195423570985008687907853269984665640564039457584007913129639936) (hb0:0<b) (w:World):
  Calls prog 86 #[.agg (uc a).toArray,.agg (uc b).toArray] w fun e w'=>e= .returned (.tuple #[.agg (uc (a / b)).toArray,.agg (uc (a % b)).toArray,.bool true])∧Below w.heap.size w w':=by
 obtain⟨W,hW⟩:=Nm (((((w.alloc (.cells (uc a).toArray 151)).alloc (.cells (uc b).toArray 151)).alloc (.cells #[.int .u64 0,.int .u64 0,.int .u64 0,.int .u64 0] 151)).alloc (.cells #[.int .u64 0,.int .u64 0,.int .u64 0,.int .u64 0] 151)))
 refine Xm80 ?_;intro H hH e bW
 have aA:Av W H 151 (uc a):=by rw[hW,hH];exact Av.alloc (Av.alloc (heap_alloc2_old _ _ _) _) _
 have aB:Av W (H+1) 151 (uc b):=by rw[hW,hH];exact Av.alloc (Av.alloc (heap_alloc2_new _ _ _) _) _
 have aR:Av W (H+2) 151 (fS 0 0 0 0):=by
  have q:=heap_alloc_new ((w.alloc (.cells (uc a).toArray 151)).alloc (.cells (uc b).toArray 151)) (.cells #[.int .u64 0,.int .u64 0,.int .u64 0,.int .u64 0] 151)
  rw[e,e] at q
  rw[hW,hH];exact Av.alloc q _
 have aS:Av W (H+3) 151 (fS 0 0 0 0):=by
  have q:=heap_alloc_new (((w.alloc (.cells (uc a).toArray 151)).alloc (.cells (uc b).toArray 151)).alloc (.cells #[.int .u64 0,.int .u64 0,.int .u64 0,.int .u64 0] 151)) (.cells #[.int .u64 0,.int .u64 0,.int .u64 0,.int .u64 0] 151)
  rw[e,e,e] at q
  rw[hW,hH];exact q
 have hWs:W.heap.size=H+4:=by rw[hW,hH];simp
 have HZ:=fun x y w=>PZ b x y w hb
 rw[decide_eq_false (Nat.ne_of_gt hb0)] at HZ
 obtain⟨N,hN⟩:=Nm (sL a 4)
 have HL:=PT a
 rw[← hN] at HL
 obtain⟨hN1,hN2,_⟩:=rE a 4 (Nat.div_eq_of_lt OM)
 rw[← hN] at hN1 hN2
 have HA:=fun x hx=>LX x x hx hx
 have HC:=fun x hx=>Rc x b hx hb
 have HS:=fun x hx=>Rm x b hx hb
 obtain⟨W2,hW2⟩:=Nm (((W.alloc (.cells #[.int .u64 0,.int .u64 0,.int .u64 0,.int .u64 0] 151)).alloc (.cells #[.int .u64 0,.int .u64 0,.int .u64 0,.int .u64 0] 151)))
 have bW2:Below w.heap.size w W2:=by rw[hW2];exact(bW.alloc (bW.size) _).alloc (by simp;have:=bW.size;omega) _
 have aA:=Av.alloc (Av.alloc aA (.cells #[.int .u64 0,.int .u64 0,.int .u64 0,.int .u64 0] 151)) (.cells #[.int .u64 0,.int .u64 0,.int .u64 0,.int .u64 0] 151)
 have aB2:=Av.alloc (Av.alloc aB (.cells #[.int .u64 0,.int .u64 0,.int .u64 0,.int .u64 0] 151)) (.cells #[.int .u64 0,.int .u64 0,.int .u64 0,.int .u64 0] 151)
 have aR:=Av.alloc (Av.alloc aR (.cells #[.int .u64 0,.int .u64 0,.int .u64 0,.int .u64 0] 151)) (.cells #[.int .u64 0,.int .u64 0,.int .u64 0,.int .u64 0] 151)
 have aS:=Av.alloc (Av.alloc aS (.cells #[.int .u64 0,.int .u64 0,.int .u64 0,.int .u64 0] 151)) (.cells #[.int .u64 0,.int .u64 0,.int .u64 0,.int .u64 0] 151)
 rw[← hW2] at aA aB2 aR aS
 have aO:Av W2 (H+4) 151 (fS 0 0 0 0):=by
  have q:=heap_alloc2_old W (.cells #[.int .u64 0,.int .u64 0,.int .u64 0,.int .u64 0] 151) (.cells #[.int .u64 0,.int .u64 0,.int .u64 0,.int .u64 0] 151)
  rw[hWs] at q;rw[hW2];exact q
 have aL:Av W2 (H+5) 151 (fS 0 0 0 0):=by
  have q:=heap_alloc2_new W (.cells #[.int .u64 0,.int .u64 0,.int .u64 0,.int .u64 0] 151) (.cells #[.int .u64 0,.int .u64 0,.int .u64 0,.int .u64 0] 151)
  rw[hWs] at q;rw[hW2];exact q
 have hW2s:W2.heap.size=H+6:=by rw[hW2];simp;omega
 have ba:=(aA.lt)
 have fin1:lV a b 0=a / b:=(Oq a b).1
 have fin2:mH a b 0=a % b:=(Oq a b).2
 obtain⟨st1,st2⟩:=IV a b N hN1
 have hHw:w.heap.size≤H:=by rw[hH];exact Nat.le_refl _
 have hHw2:w.heap.size≤H+2:=by omega
 have hHw3:w.heap.size≤H+3:=by omega
 have z4:uc 0=fS 0 0 0 0:=vX
 rw[← z4] at aO aL
 replace z4:=Hy z4
 obtain⟨q,hq⟩:=Nm (a / b)
 obtain⟨r,hr⟩:=Nm (a % b)
 rw[← hq,← hr]
 rw[← hq] at fin1
 rw[← hr] at fin2
 replace hq:=Hy hq
 replace hr:=Hy hr
 replace fin1:=Hy fin1
 replace fin2:=Hy fin2
 replace st1:=Hy st1
 replace st2:=Hy st2
 replace HA:=Hy HA
 replace HC:=Hy HC
 replace HS:=Hy HS
 replace HL:=Hy HL
 replace HZ:=Hy HZ
 replace hN:=Hy hN
 replace hN1:=Hy hN1
 replace hW:=Hy hW
 replace hW2:=Hy hW2
 replace hH:=Hy hH
 replace hWs:=Hy hWs
 clear e
 go_enter func86,ntmps86
 go_upto_region 1 with fail
 rw[show w.heap.size+1+1+1=w.heap.size+3 from rfl,show w.heap.size+1+1=w.heap.size+2 from rfl]
 rw[← hW.out,← hH.out]
 go_upto_region 4 with (first
  |((with_reducible refine LH aB 4 SU ?_ ?_);rfl)
  |((with_reducible refine dF (op:=.eql) (ty:=151) ?_ ?_ ?_ (HZ.out _ _ W) ?_);rfl;rfl;rfl))
 rw[hWs.out]
 rw[show H+4+1=H+5 from rfl]
 rw[← hW2.out]
 go_upto_region 5 with (first
  |((with_reducible refine LH aA 4 SU ?_ ?_);rfl)
  |(go_at_call 120;refine(HL.out W2).mono ?_;rintro e w3 ⟨rfl,b3⟩))
 have h3s:H+6≤w3.heap.size:=by rw[← hW2s];exact b3.size
 have d0:Dv w3 H (uc a) (uc b) (uc 0) (uc 0):=⟨aA.b b3,aB2.b b3,aR.b b3,aS.b b3,aO.b b3,aL.b b3⟩
 have b3:=bW2.trans (b3.mono bW2.size)
 clear bW bW2 aB2 ba aA aR aS aO aL aB
 have hH5:w.heap.size≤H+5:=by omega
 go_loopw [9] (fun i wr=>∃ K:Nat,K≤N∧i= .int .i64 ((K:Int) - 1)∧Dv wr H (uc a) (uc b) (uc (lV a b K)) (uc (mH a b K))∧Below w.heap.size w wr) (fun i _=>(intOf i+1).toNat)
 case atStart=>exact⟨N,Nat.le_refl _,rfl,by rw[st1.out,st2.out];exact d0,b3⟩
 case round=>
  clear d0 b3
  obtain⟨K,hK,rfl,dw,bw⟩:=hrel
  by_cases hK0:K=0
  ·subst hK0
   rw[fin1.out,fin2.out] at dw
   have tk:decide ((0:Int)≤(((0:Nat):Int) - 1))=false:=by decide
   go_wp2_with fail
   refine eH 3 [] [(2,fun w'=>Av w' (H+2) 151 (uc q))] (RS (H+2) 151 (uc q)) KR KR KR KR KR KR (fun w=>RS.refl w) RS.trans zI (by
    intro p hp w w' hR h
    simp only[List.mem_singleton] at hp
    subst hp
    exact hR.2.1 h) ?_
   refine rU (fun w=>RS.refl w) rfl (cT (fun w=>RS.refl w) rfl rfl rfl rfl (c:=.agg (uc q).toArray) (fun w hw=>aE (l:=uc q) (hw.1.av dw.v4.drew OM) _ _ rfl rfl _ 4 rfl SU rfl KR) zZ (jC ?_))
   refine rU (fun w=>RS.refl w) rfl (cT (fun w=>RS.refl w) rfl rfl rfl rfl (c:=.agg (uc r).toArray) (fun w hw=>aE (l:=uc r) (hw.1.av dw.v5.drew OM) _ _ rfl rfl _ 4 rfl SU rfl KR) zZ (jC ?_))
   refine pJ rfl rfl (fun w hw=>fY (C:=uc q) dw.v2.drew rfl hw _ _ _ rfl rfl rfl 4 rfl KR rfl 2) ?_
   refine mG fun w5 hw5 hg=>?_
   simp only[List.drop_succ_cons,List.drop_zero]
   have a5:=hg (2,fun w'=>Av w' (H+2) 151 (uc q)) (List.mem_singleton.2 rfl)
   have a6:=hw5.1.av dw.v3.drew OM
   have b5:=bw.trans ((Fr.ofDrew hw5.1).b (B:=w.heap.size) (fun k hk=>by omega) bw.size)
   dsimp only at a5
   clear hg hw5 dw bw
   go_wp2_with ((with_reducible refine SF b5 a6 hHw3 (uc r) 4 ?_ ?_ ?_);rfl;rfl;intro w6 a7 b7 k7 z7;replace z7:=Hy z7)
   have a8:Av w6 (H+2) 151 (uc q):=a5.same (k7 _ OM)
   refine bodyPost_ret (v:=.tuple #[.agg (uc q).toArray,.agg (uc r).toArray,.bool true]) ((qL bM bM bM a8 a7 SU rfl 4 rfl rfl KR).trans bM) bM ⟨rfl,b7⟩
  ·obtain⟨k,rfl⟩:∃ k,K=k+1:=⟨K - 1,by omega⟩
   have ek:(((k+1:Nat):Int) - 1)=(k:Int):=by omega
   rw[ek]
   have tk:decide ((0:Int)≤(k:Int))=true:=by simp
   clear ek
   obtain⟨L,hL⟩:=Nm (mH a b (k+1))
   obtain⟨Q,hQ⟩:=Nm (lV a b (k+1))
   rw[← hL,← hQ] at dw
   have hLb:L<b:=by rw[hL];exact Be _ _ _ hb0
   have hQd:Q % 2 ^ (k+1)=0:=by rw[hQ];exact Ct _ _ _
   obtain⟨V,hV,hV2,hlo,hhi⟩:=NF a b k hb0 hb
   rw[← hL] at hV
   rw[← hQ] at hlo hhi
   obtain⟨t,ht⟩:=Nm (a / 2 ^ k % 2)
   rw[← ht] at hV
   have ht2:t<2:=by rw[ht];exact Nat.mod_lt _ OM
   have hk255:k<256:=by omega
   have q0:(0:Int)≤(k:Int):=by omega
   obtain⟨j,hj⟩:=Nm (k / 64)
   obtain⟨s,hs⟩:=Nm (k % 64)
   have q1:(k:Int) / 64=(j:Int):=by omega
   have q2:(0:Int)≤(j:Int):=by omega
   have hk64:j<4:=by omega
   have q3:(j:Int)<4:=by omega
   have q4:(k:Int) % 64=(s:Int):=by omega
   have q1w:IntKind.i64.wrap (j:Int)=(j:Int):=by rw[IntKind.wrap_i64];omega
   have q4:(k:Int).tmod 64=(s:Int):=by rw[Int.tmod_eq_emod_of_nonneg q0];exact q4
   have q4w:IntKind.i64.wrap (s:Int)=(s:Int):=by rw[IntKind.wrap_i64];omega
   have q5:(0:Int)≤(s:Int):=by omega
   have q6:(s:Int)<64:=by omega
   obtain⟨D,hD⟩:=Nm ((L+L) % 115792089237316195423570985008687907853269984665640564039457584007913129639936)
   have hDl:D<115792089237316195423570985008687907853269984665640564039457584007913129639936:=by rw[hD];exact Nat.mod_lt _ OM
   have hDe:D % 2=0:=by omega
   obtain⟨o,ho⟩:=Nm (decide (115792089237316195423570985008687907853269984665640564039457584007913129639936≤L+L))
   have HA8:=HA.out L OM
   rw[← hD,← ho] at HA8
   obtain⟨X,hX⟩:=Nm (lim a j)
   obtain⟨Y,hY⟩:=Nm (X / 2 ^ s)
   obtain⟨P,hP⟩:=Nm (2 ^ s)
   obtain⟨Z0,hZ0⟩:=Nm (lim D 0)
   obtain⟨Z1,hZ1⟩:=Nm (Z0 |||t)
   obtain⟨Q0,hQ0⟩:=Nm (lim Q j)
   obtain⟨Q1,hQ1⟩:=Nm (Q0 |||P)
   have hXl:X<18446744073709551616:=by rw[hX];exact fG _ _
   have q7:(X:Int) / 2 ^ s=(Y:Int):=by rw[hY];push_cast;rfl
   have q8:bits .and .u64 (Y:Int) 1=(t:Int):=by
    have:=(bits_nat .u64 64 DC wraps_u64 Y 1 (by rw[hY];exact Nat.lt_of_le_of_lt (Nat.div_le_self _ _) hXl) OM).1
    rw[Nat.and_one_is_mod,hY,hX,hj,hs,LZ,← ht,← hs,← hj,← hX,← hY] at this
    simpa using this
   have q9:bits .or .u64 (Z0:Int) (t:Int)=(Z1:Int):=by rw[hZ1];exact(bits_nat .u64 64 DC wraps_u64 Z0 t (by rw[hZ0];exact fG _ _) OM).2
   have hp64:P<18446744073709551616:=by
    rw[hP,show (18446744073709551616:Nat)=2 ^ 64 from by decide]
    exact Nat.pow_lt_pow_right OM OM
   have q10:IntKind.u64.wrap ((2:Int) ^ s)=(P:Int):=by
    rw[IntKind.wrap_u64,show (2:Int) ^ s=(P:Int) by rw[hP];push_cast;rfl]
    omega
   have q11:bits .or .u64 (Q0:Int) (P:Int)=(Q1:Int):=by rw[hQ1];exact(bits_nat .u64 64 DC wraps_u64 Q0 P (by rw[hQ0];exact fG _ _) hp64).2
   have hDs:=NG D t hDe ht2
   rw[← hZ0,← hZ1] at hDs
   have hQs:=IW Q k hQd hk255
   rw[← hj,← hs,← hP,← hQ0,← hQ1] at hQs
   have gD:=lL D 0 OM
   have gA:=lL a j hk64
   have gQ:=lL Q j hk64
   rw[← hZ0] at gD
   rw[← hX] at gA
   rw[← hQ0] at gQ
   have hQl:j<(uc Q).length:=hk64
   have hDz:0<(uc D).length:=by show 0<4;omega
   have hV1:D+t<115792089237316195423570985008687907853269984665640564039457584007913129639936:=by omega
   have hov:o=true→115792089237316195423570985008687907853269984665640564039457584007913129639936≤L+L:=fun h=>by rw[ho] at h;exact of_decide_eq_true h
   have hno:o=false→¬ 115792089237316195423570985008687907853269984665640564039457584007913129639936≤L+L:=fun h=>by rw[ho] at h;exact of_decide_eq_false h
   replace hQs:=Hy hQs
   replace hDs:=Hy hDs
   replace q8:=Hy q8
   replace q1:=Hy q1
   replace q4:=Hy q4
   replace q1w:=Hy q1w
   replace q4w:=Hy q4w
   replace q7:=Hy q7
   replace q10:=Hy q10
   replace gD:=Hy gD
   replace gA:=Hy gA
   replace gQ:=Hy gQ
   clear hX hY hP hZ0 hZ1 hQ0 hQ1 hXl hp64 hj hs
   replace q9:=Hy q9
   replace q11:=Hy q11
   replace hL:=Hy hL
   replace hQ:=Hy hQ
   replace hV:=Hy hV
   replace ht:=Hy ht
   replace hD:=Hy hD
   replace ho:=Hy ho
   replace HA8:=Hy HA8
   replace hDe:=Hy hDe
   replace hQd:=Hy hQd
   replace hlo:=Hy hlo
   replace hhi:=Hy hhi
   replace hov:=Hy hov
   replace hno:=Hy hno
   obtain⟨wv,hwv⟩:=Nm (wr)
   replace hwv:=Hy hwv
   go_upto_region 9 with (first
    |((with_reducible refine LH dw.v5 4 SU ?_ ?_);rfl)
    |(go_at_call 60;refine(HA8.out wr).mono ?_;rintro e w7 ⟨rfl,c7⟩;have d7:=dw.b c7;have e7:=bw.trans (c7.mono bw.size))
    |((with_reducible refine SF e7 d7.v5 hH5 (uc D) 4 ?_ ?_ ?_);rfl;rfl;intro w8 a8 b8 k8 z8;replace z8:=Hy z8))
   have d8:=d7.put5 k8 a8
   clear k8 a8 d7 e7 c7 dw
   refine bL 12 [] cI KR KR KR KR KR cI.refl cI.trans zI ?_
   repeat refine ZP (fun w hw=>by have:=(d8.v5.b hw.drew).cell 0 _ gD.out;have:=q1.out;have:=q0;have:=q1w.out;have:=q2;have:=q3;have:=(d8.v0.b hw.drew).cell j _ gA.out;have:=q4.out;have:=q4w.out;have:=q5;have:=q6;have:=q7.out;have:=q8.out;have:=q9.out;exact zG) ?_
   refine bO fun w9 hw9=>aF ?_
   simp only[List.drop_succ_cons,List.drop_zero]
   have d9:=d8.b hw9.drew
   have b9:=b8.trans (hw9.drew.mono b8.size)
   ((with_reducible refine cR 92 d9.v5 hDz .u64 (Z1:Int) ?_ ?_ oG ?_);rfl;rfl;intro w10 a10 f10)
   rw[hDs.out] at a10
   have d10:=d9.fr5 f10 a10
   have b10:=b9.trans (f10.b (B:=w.heap.size) (fun j hj=>by omega) b9.size)
   clear a10 f10 d9 d8 hw9 b9 b8
   cases o with
   |true=>
    have hM2:=hov.out rfl
    have eVb:b≤V:=by rw[hV.out];omega
    obtain⟨eL,eQ⟩:=hhi.out eVb
    have eS:(D+t+115792089237316195423570985008687907853269984665640564039457584007913129639936 - b) % 115792089237316195423570985008687907853269984665640564039457584007913129639936=V - b:=by
     have:=hV.out;have:=hD.out;omega
    have b11:=b10
    replace eL:=Hy eL
    replace eQ:=Hy eQ
    clear hov hno hhi hlo
    go_upto_region 11 with fail
    have HS11:=HS.out (D+t) hV1
    rw[eS] at HS11
    replace HS11:=Hy HS11
    go_upto_region 12 with (first
     |((with_reducible refine LH d10.v5 4 SU ?_ ?_);rfl)
     |((with_reducible refine LH d10.v1 4 SU ?_ ?_);rfl)
     |(go_at_call 122;refine(HS11.out w10).mono ?_;rintro e w12 ⟨rfl,c12⟩;have d12:=d10.b c12;have e12:=b11.trans (c12.mono b11.size))
     |((with_reducible refine SF e12 d12.v5 hH5 (uc (V - b)) 4 ?_ ?_ ?_);rfl;rfl;intro w11 a11 b11 k11 z11;replace z11:=Hy z11))
    exact Xc41
   |false=>
    have hM2:=hno.out rfl
    have hDV:D+t=V:=by have:=hV.out;have:=hD.out;omega
    obtain⟨Z,hZ⟩:=Nm (qE (D+t) b)
    have HC10:=HC.out (D+t) hV1
    rw[← hZ] at HC10
    replace HC10:=Hy HC10
    by_cases hVb:b≤V
    ·obtain⟨eL,eQ⟩:=hhi.out hVb
     have eS:(D+t+115792089237316195423570985008687907853269984665640564039457584007913129639936 - b) % 115792089237316195423570985008687907853269984665640564039457584007913129639936=V - b:=by omega
     have tZ:decide ((0:Int)≤Z)=true:=by
      rw[hZ,qE,if_neg OM];split <;> simp
     replace eL:=Hy eL
     replace eQ:=Hy eQ
     replace hZ:=Hy hZ
     clear hov hno hhi hlo hDV
     go_upto_region 11 with (first
      |((with_reducible refine LG d10.v5 4 SU ?_ ?_ ?_);rfl;rfl)
      |((with_reducible refine LG d10.v1 4 SU ?_ ?_ ?_);rfl;rfl)
      |(go_at_call 121;refine(HC10.out w10).mono ?_;rintro e w15 ⟨rfl,c15⟩))
     have d10:=d10.b c15
     have b11:=b10.trans (c15.mono b10.size)
     clear b10 c15
     have HS11:=HS.out (D+t) hV1
     rw[eS] at HS11
     replace HS11:=Hy HS11
     go_upto_region 12 with (first
      |((with_reducible refine LH d10.v5 4 SU ?_ ?_);rfl)
      |((with_reducible refine LH d10.v1 4 SU ?_ ?_);rfl)
      |(go_at_call 122;refine(HS11.out w15).mono ?_;rintro e w12 ⟨rfl,c12⟩;have d12:=d10.b c12;have e12:=b11.trans (c12.mono b11.size))
      |((with_reducible refine SF e12 d12.v5 hH5 (uc (V - b)) 4 ?_ ?_ ?_);rfl;rfl;intro w11 a11 b11 k11 z11;replace z11:=Hy z11))
     exact Xc41
    ·obtain⟨eL,eQ⟩:=hlo.out OM
     have tZ:decide ((0:Int)≤Z)=false:=by
      rw[hZ,qE,if_pos OM];rfl
     replace hZ:=Hy hZ
     replace eL:=Hy eL
     replace eQ:=Hy eQ
     replace hDV:=Hy hDV
     clear hov hno hhi hlo
     go_wp2_with (first
      |((with_reducible refine LG d10.v5 4 SU ?_ ?_ ?_);rfl;rfl)
      |((with_reducible refine LG d10.v1 4 SU ?_ ?_ ?_);rfl;rfl)
      |(go_at_call 121;refine(HC10.out w10).mono ?_;rintro e w15 ⟨rfl,c15⟩))
     have d10:=d10.b c15
     have b11:=b10.trans (c15.mono b10.size)
     refine⟨⟨k,by omega,rfl,by rw[eQ.out,eL.out,← hDV.out];exact d10,b11⟩,?_⟩
     simp[intOf]
open Go.RowKit
def Bf (f g m:Nat):List Value:=(List.range 256).map fun i=>.int .i64 ((if i<m then cS f i else cS g i:Nat):Int)
theorem nK (f g m:Nat):(Bf f g m).length=256:=by simp[Bf]
theorem IX (f g:Nat):Bf f g 0=jB g 256:=by
 unfold Bf jB
 refine List.map_congr_left fun i hi=>?_
 rw[List.mem_range] at hi
 rw[if_neg OM,if_pos hi]
theorem Bg (f g:Nat):Bf f g 256=jB f 256:=by
 unfold Bf jB
 refine List.map_congr_left fun i hi=>?_
 rw[List.mem_range] at hi
 rw[if_pos hi,if_pos hi]
theorem IY (f g m:Nat) (h:m<256):(Bf f g m)[m]? =some (.int .i64 (cS g m:Int)):=by
 simp[Bf,h]
theorem FM (f g m:Nat) (h:m<256):(Bf f g m).set m (.int .i64 (cS f m:Int))=Bf f g (m+1):=by
 apply List.ext_getElem?
 intro i
 rw[List.getElem?_set]
 by_cases e:m=i
 ·subst e
  rw[if_pos rfl,if_pos (by rw[nK];exact h)]
  simp[Bf,h]
 ·rw[if_neg e]
  by_cases hi:i<256
  ·simp only[Bf,List.getElem?_map,List.getElem?_range hi,Option.map_some]
   by_cases h2:i<m
   ·rw[if_pos h2,if_pos OM]
   ·rw[if_neg h2,if_neg OM]
  ·rw[List.getElem?_eq_none (by rw[nK];omega),List.getElem?_eq_none (by rw[nK];omega)]
def tG (a b k:Nat):Nat:=uY 2 a b k
theorem GK (a b k:Nat):cS a k+cS b k+tG a b k=2*tG a b (k+1)+cS (a+b) k∧tG a b k<2:=by
 obtain⟨h1,h2⟩:=tD 2 a b k OM
 unfold cS tG
 omega
theorem IZ (a b:Nat) (ha:a<2 ^ 256) (hb:b<2 ^ 256):(tG a b 256=1↔2 ^ 256≤a+b):=by
 rw[tG,Bd _ _ _ _ ha hb]
 omega
def tH (a b k:Nat):Nat:=uY 2 (2 ^ 256+a - b) b k
theorem GL (a b k:Nat) (_:a<2 ^ 256) (hb:b<2 ^ 256) (hk:k<256):2*tH a b (k+1)+cS a k=cS b k+tH a b k+cS (2 ^ 256+a - b) k:=by
 obtain⟨h1,_⟩:=tD 2 (2 ^ 256+a - b) b k OM
 have h2:cS (2 ^ 256+a - b+b) k=cS a k:=by
  rw[Nat.sub_add_cancel OM]
  unfold cS
  rw[show (2:Nat) ^ 256+a=a+2 ^ k*2 ^ (256 - k) by rw[← Nat.pow_add,show k+(256 - k)=256 by omega,Nat.add_comm],Nat.add_mul_div_left _ _ (Nat.pow_pos OM),show 256 - k=(255 - k)+1 by omega,Nat.pow_succ]
  omega
 unfold cS tH at*
 omega
theorem Ma (a b k:Nat):tH a b k<2:=Nat.lt_succ_of_le (tD 2 _ b k OM).2
theorem Ja (a b:Nat) (ha:a<2 ^ 256) (hb:b<2 ^ 256):(tH a b 256=1↔a<b):=by
 unfold tH uY
 rw[Nat.mod_eq_of_lt hb]
 omega
theorem Jb (a k:Nat) (ha:a<2 ^ 256) (hk:k<256):cS (2 ^ 256 - 1 - a) k=1 - cS a k:=by
 have h:=Nat.testBit_two_pow_sub_succ ha k
 rw[Nat.testBit_eq_decide_div_mod_eq,Nat.testBit_eq_decide_div_mod_eq,show 2 ^ 256 - (a+1)=2 ^ 256 - 1 - a by omega] at h
 unfold cS
 have h1:=Nat.mod_lt (a / 2 ^ k) (show 0<2 by omega)
 have h2:=Nat.mod_lt ((2 ^ 256 - 1 - a) / 2 ^ k) (show 0<2 by omega)
 generalize a / 2 ^ k % 2=x at*
 generalize (2 ^ 256 - 1 - a) / 2 ^ k % 2=y at*
 have e:decide (k<256)=true:=by simp[hk]
 rw[e,Bool.true_and] at h
 have:(y=1)= ¬ (x=1):=by
  rw[Bool.eq_iff_iff] at h
  simp only[decide_eq_true_eq,Bool.not_eq_true',decide_eq_false_iff_not] at h
  exact propext h
 by_cases hx:x=1
 ·simp[hx] at this;omega
 ·simp[hx] at this;omega
theorem Mb (n k:Nat) (h:n % 2 ^ (k+1)=0) (hk:k<256):(jB n 256).set k (.int .i64 1)=jB (n+2 ^ k) 256:=by
 apply List.ext_getElem?
 intro i
 rw[List.getElem?_set]
 have hd:∀ i,cS (n+2 ^ k) i=if i=k then 1 else cS n i:=fun i=>by
  have e:=zX n k h
  unfold cS
  have h1:=Nat.mod_lt (n / 2 ^ i) (show 0<2 by omega)
  have h2:=Nat.mod_lt ((n+2 ^ k) / 2 ^ i) (show 0<2 by omega)
  have t:(n+2 ^ k).testBit i=(n.testBit i || decide (k=i)):=by rw[e,Nat.testBit_or,Nat.testBit_two_pow]
  rw[Nat.testBit_eq_decide_div_mod_eq,Nat.testBit_eq_decide_div_mod_eq] at t
  generalize n / 2 ^ i % 2=x at*
  generalize (n+2 ^ k) / 2 ^ i % 2=y at*
  by_cases c:i=k
  ·rw[if_pos c]
   simp[c.symm] at t
   omega
  ·rw[if_neg c]
   have c':¬ k=i:=fun e=>c e.symm
   simp[c'] at t
   omega
 by_cases e:k=i
 ·subst e
  rw[if_pos rfl,if_pos (by rw[eG];exact hk),kQ _ _ _ hk,if_pos hk,hd,if_pos rfl]
  rfl
 ·rw[if_neg e]
  by_cases hi:i<256
  ·rw[kQ _ _ _ hi,kQ _ _ _ hi,if_pos hi,if_pos hi,hd,if_neg (fun c=>e c.symm)]
  ·rw[List.getElem?_eq_none (by rw[eG];omega),List.getElem?_eq_none (by rw[eG];omega)]
theorem Ot:zeroCells202.size=256:=by rw[rF 0,List.size_toArray,eG]
theorem Ro (a:Nat) (ha:a<2 ^ 256) (w:World):
  Calls prog 92 #[.agg (uc a).toArray] w fun e w'=>e= .returned (.agg (uc (2 ^ 256 - 1 - a)).toArray)∧Below w.heap.size w w':=by
 have hb:=fun k hk=>Jb a k ha hk
 obtain⟨A,hA⟩:=Nm (2 ^ 256 - 1 - a)
 have HN0:=qK A
 rw[Nat.mod_eq_of_lt (show A<2 ^ 256 by omega)] at HN0
 have hE:=Bg A a
 have hS:=IX A a
 rw[← hA] at hb ⊢
 obtain⟨X,hX⟩:=Nm (jB a 256)
 obtain⟨V,hV⟩:=Nm (uc a)
 obtain⟨Z,hZ⟩:=Nm (uc A)
 rw[← hV,← hZ]
 obtain⟨W,hW⟩:=Nm ((w.alloc (.cells V.toArray 158)).alloc (.cells #[.int .u64 0,.int .u64 0,.int .u64 0,.int .u64 0] 158))
 obtain⟨H,hH⟩:=Nm (w.heap.size)
 have bW:Below w.heap.size w W:=by rw[hW];exact((Below.refl _ _).alloc LR _).alloc zS _
 have aU:Av W H 158 V:=by rw[hW,hH];exact heap_alloc2_old _ _ _
 have aR:Av W (H+1) 158 [.int .u64 0,.int .u64 0,.int .u64 0,.int .u64 0]:=by rw[hW,hH];exact heap_alloc2_new _ _ _
 have lU:Hid (V.length=4):=Hy (by rw[hV];rfl)
 have lX:Hid (X.length=256):=Hy (by rw[hX];exact eG a 256)
 have oX:Hid (X.all (·.oneCell')=true):=Hy (by rw[hX];exact List.all_eq_true.2 (pG a 256))
 have zsz:=Hy Ot
 have HD0:=pI a
 rw[← hX,← hV] at HD0
 rw[← hZ,← hE] at HN0
 rw[← hX] at hS
 have HDX:=HD0
 have HN:=Hy HN0
 have HD:=Hy HD0
 clear HDX HD0 HN0 hE ha
 have lZ:Hid (Z.length=4):=Hy (by rw[hZ];rfl)
 have oZ:Hid (Z.all (·.oneCell')=true):=Hy (by rw[hZ];rfl)
 replace hA:=Hy hA
 replace hX:=Hy hX
 replace hV:=Hy hV
 replace hZ:=Hy hZ
 replace hW:=Hy hW
 replace hH:=Hy hH
 replace hb:=Hy hb
 replace hS:=Hy hS
 go_enter func92,ntmps92
 go_upto_region 1 with fail
 rw[← hW.out,← hH.out]
 go_upto_region 2 with (first
  |((with_reducible refine LF aU 4 lU.out SV ?_ ?_);rfl)
  |(go_at_call 93;refine(HD.out _).mono ?_;rintro e w1 ⟨rfl,bw1⟩)
  |((with_reducible refine SN X 256 ?_ ?_ ?_ (hn:=lX.out) (ho:=zsz.out) (h1:=oX.out));rfl;rfl;intro w2 a5 bw2 k2 z2;clear k2 z2))
 have b12:=bw1.trans (bw2.mono bw1.size)
 have bw:=bW.trans (b12.mono bW.size)
 replace aR:=aR.b b12
 obtain⟨g,hg⟩:=Nm (w1.heap.size)
 rw[← hg,← hS.out] at a5
 have hRg:H+1<g:=by rw[hg];exact Nat.lt_of_lt_of_le (show H+1<W.heap.size by rw[hW.out,hH.out];simp) bw1.size
 rw[← hg]
 replace hg:=Hy hg
 have hHw:w.heap.size≤H+1:=by rw[hH.out];omega
 clear bw1 bw2 b12 aU bW
 go_upto_region 3 with fail
 go_loopw [4] (fun iv wr=>∃ k:Nat,k≤256∧iv= .int .i64 (k:Int)∧Below w.heap.size w wr∧Av wr (H+1) 158 [.int .u64 0,.int .u64 0,.int .u64 0,.int .u64 0]∧Av wr g 202 (Bf A a k)) (fun iv _=>256 - (intOf iv).toNat)
 case atStart=>exact⟨0,by omega,rfl,bw,aR,a5⟩
 case round=>
  clear bw aR a5
  obtain⟨k,hk,rfl,bw,aR,a5⟩:=hrel
  by_cases hlt:k<256
  ·have t1:decide ((k:Int)<256)=true:=by simp;omega
   have k0:(0:Int)≤(k:Int):=by omega
   have k1:(k:Int)<256:=by omega
   have hset:=FM A a k hlt
   have cX:=a5.cell k _ (IY A a k hlt)
   have hl:k<(Bf A a k).length:=by rw[nK];exact hlt
   rw[hb.out k hlt] at hset
   have hd2:=mF a k
   obtain⟨d,hd⟩:=Nm (cS a k)
   rw[← hd] at cX hset hd2
   have e1:IntKind.i64.wrap (1 - (d:Int))=((1 - d:Nat):Int):=by rw[IntKind.wrap_i64];omega
   obtain⟨Y,hY⟩:=Nm (Bf A a k)
   rw[← hY] at hset hl a5
   replace hset:=Hy hset
   replace hd:=Hy hd
   replace hY:=Hy hY
   replace hb:=Hy hb
   go_upto_region 4 with ((with_reducible refine cR 3 a5 hl .i64 ((1 - d:Nat):Int) ?_ ?_ mS ?_);rfl;rfl;intro w4 a4 f4)
   rw[hset.out] at a4
   have aR4:=f4.av aR OM
   have b4:=bw.trans (f4.b (B:=w.heap.size) (fun k hk=>by omega) bw.size)
   clear aR a5 bw f4 cX
   go_wp2
   refine⟨⟨k+1,by omega,by go_num,b4,aR4,a4⟩,?_⟩
   simp[intOf]
   omega
  ·obtain rfl:k=256:=by omega
   have t1:decide ((256:Int)<256)=false:=by simp
   have lY:=Hy (nK A a 256)
   go_wp2_with (first
    |((with_reducible refine LF a5 256 lY.out Tu ?_ ?_);rfl)
    |(go_at_call 94;refine(HN.out _).mono ?_;rintro e w8 ⟨rfl,b8⟩)
    |((with_reducible refine SF (bw.trans (b8.mono bw.size)) (aR.b b8) hHw Z 4 ?_ ?_ ?_ (hn:=lZ.out) (h1:=oZ.out));rfl;rfl;intro w9 a9 b9 k9 z9;clear k9 z9))
   refine bodyPost_ret (results_cell_row rfl _ _ (H+1) _ _ (0,0) _ bM a9 SV rfl (by rw[List.size_toArray,lZ.out];kernel_rfl)) rfl ⟨rfl,b9⟩
theorem Xm132 {p q:Prop} (k:q) (h:Hid q→p:=by
 intro hk
 have hq2:q<2:=by rw[hq];exact mF A k
 rw[← hd] at cX hnk hd2
 rw[← hf] at cY hnk hb2
 rw[← hq] at hset hnk
 rw[← hc,← hm] at hnk
 rw[← hc]
 obtain⟨M,hM⟩:=Nm (Bf A a k)
 rw[← hM] at hset hl a5
 replace hset:=Hy hset
 replace hd:=Hy hd
 replace hf:=Hy hf
 replace hq:=Hy hq
 replace hc:=Hy hc
 replace hm:=Hy hm
 replace hM:=Hy hM
 revert hd2 cX hb2 cY hnk hq2 M a5 hl hset hd hf hq hc hm hM;exact hk.out):p:=h (Hy k)
theorem Xm106 {p q:Prop} (k:q) (h:Hid q→p:=by
 intro hk
 have t1:decide ((k:Int)<256)=true:=by simp;omega
 have k0:(0:Int)≤(k:Int):=by omega
 have k1:(k:Int)<256:=by omega
 have hset:=FM A a k hlt
 have cX:=a5.cell k _ (IY A a k hlt)
 have cY:=a6.cell k _ (hYc.out k hlt)
 have hl:k<(Bf A a k).length:=by rw[nK];exact hlt
 have hnk:=hn.out k hlt
 have hd2:=mF a k
 have hb2:=mF b k
 obtain⟨d,hd⟩:=Nm (cS a k)
 obtain⟨f,hf⟩:=Nm (cS b k)
 obtain⟨q,hq⟩:=Nm (cS A k)
 revert t1 k0 k1 hset cX cY hl hnk hd2 hb2 d hd f hf q hq;exact hk.out):p:=h (Hy k)
theorem Xc73 {p:Prop} (h:p:=by
 rw[← hc] at q1 ⊢
 replace hc:=Hy hc
 have t2:((c:Int)==1)=Q:=by rw[hQ.out,Bool.eq_iff_iff];simp;omega
 clear q1
 go_wp2_with (first
  |((with_reducible refine LF a5 256 lY.out Tu ?_ ?_);rfl)
  |(go_at_call 94;refine(HN.out _).mono ?_;rintro e w8 ⟨rfl,b8⟩)
  |((with_reducible refine SF (bw.trans (b8.mono bw.size)) (aR.b b8) hHw Z 4 ?_ ?_ ?_ (hn:=lZ.out) (h1:=oZ.out));rfl;rfl;intro w9 a9 b9 k9 z9;clear k9 z9))
 refine bodyPost_ret ((aK (C:=Z) bM bM a9 _ SV rfl 4 lZ.out KR).trans bM) bM ⟨rfl,b9⟩):p:=h
theorem Ou (a b:Nat) (ha:a<2 ^ 256) (hb:b<2 ^ 256) (w:World):
  Calls prog 62 #[.agg (uc a).toArray,.agg (uc b).toArray] w fun e w'=>e= .returned (.tuple #[.agg (uc ((a+b) % 2 ^ 256)).toArray,.bool (decide (2 ^ 256≤a+b))])∧Below w.heap.size w w':=by
 have hn:∀ k,k<256→cS a k+cS b k+tG a b k=2*tG a b (k+1)+cS (a+b) k∧tG a b k<2:=fun k _=>GK a b k
 have hend:=IZ a b ha hb
 obtain⟨A,hA⟩:=Nm ((a+b))
 have HN0:=qK A
 have hE:=Bg A a
 have hS:=IX A a
 obtain⟨Q,hQ⟩:=Nm (decide (2 ^ 256≤a+b))
 rw[← hQ,← hA]
 rw[← hA] at hn
 obtain⟨X,hX⟩:=Nm (jB a 256)
 obtain⟨Y,hY⟩:=Nm (jB b 256)
 obtain⟨V,hV⟩:=Nm (uc a)
 obtain⟨T,hT⟩:=Nm (uc b)
 obtain⟨Z,hZ⟩:=Nm (uc (A % 2 ^ 256))
 rw[← hV,← hT,← hZ]
 obtain⟨W,hW⟩:=Nm (((w.alloc (.cells V.toArray 158)).alloc (.cells T.toArray 158)).alloc (.cells #[.int .u64 0,.int .u64 0,.int .u64 0,.int .u64 0] 158))
 obtain⟨H,hH⟩:=Nm (w.heap.size)
 have e:∀ (v:World) (o:Obj),(v.alloc o).heap.size=v.heap.size+1:=fun v o=>by simp
 have bW:Below w.heap.size w W:=by rw[hW];exact(((Below.refl _ _).alloc LR _).alloc zS _).alloc zU _
 have aU:Av W H 158 V:=by rw[hW,hH];exact Av.alloc (heap_alloc2_old _ _ _) _
 have aT:Av W (H+1) 158 T:=by rw[hW,hH];exact Av.alloc (heap_alloc2_new _ _ _) _
 have aR:Av W (H+2) 158 [.int .u64 0,.int .u64 0,.int .u64 0,.int .u64 0]:=by
  have:=heap_alloc_new ((w.alloc (.cells V.toArray 158)).alloc (.cells T.toArray 158)) (.cells #[.int .u64 0,.int .u64 0,.int .u64 0,.int .u64 0] 158)
  rw[e,e] at this
  rw[hW,hH];exact this
 have hWs:W.heap.size=H+3:=by rw[hW,hH,e,e,e]
 have lU:Hid (V.length=4):=Hy (by rw[hV];rfl)
 have lT:Hid (T.length=4):=Hy (by rw[hT];rfl)
 have lX:Hid (X.length=256):=Hy (by rw[hX];exact eG a 256)
 have oX:Hid (X.all (·.oneCell')=true):=Hy (by rw[hX];exact List.all_eq_true.2 (pG a 256))
 have lY:Hid (Y.length=256):=Hy (by rw[hY];exact eG b 256)
 have oY:Hid (Y.all (·.oneCell')=true):=Hy (by rw[hY];exact List.all_eq_true.2 (pG b 256))
 have zsz:=Hy Ot
 have HX:=pI a
 rw[← hX,← hV] at HX
 have HY:=pI b
 rw[← hY,← hT] at HY
 have hYc:∀ k,k<256→Y[k]? =some (.int .i64 (cS b k:Int)):=fun k h=>by rw[hY,kQ b 256 k h,if_pos h]
 rw[← hZ,← hE] at HN0
 rw[← hX] at hS
 have HN:=Hy HN0
 replace HX:=Hy HX
 replace HY:=Hy HY
 clear HN0 hE ha hb e
 have lZ:Hid (Z.length=4):=Hy (by rw[hZ];rfl)
 have oZ:Hid (Z.all (·.oneCell')=true):=Hy (by rw[hZ];rfl)
 replace hA:=Hy hA
 replace hX:=Hy hX
 replace hY:=Hy hY
 replace hV:=Hy hV
 replace hT:=Hy hT
 replace hZ:=Hy hZ
 replace hW:=Hy hW
 replace hH:=Hy hH
 replace hS:=Hy hS
 replace hn:=Hy hn
 replace hYc:=Hy hYc
 replace hQ:=Hy hQ
 replace hend:=Hy hend
 go_enter func62,ntmps62
 go_upto_region 1 with fail
 rw[← hW.out,← hH.out]
 go_upto_region 2 with (first
  |((with_reducible refine LF aU 4 lU.out SV ?_ ?_);rfl)
  |(go_at_call 93;refine(HX.out _).mono ?_;rintro e w1 ⟨rfl,bw1⟩)
  |((with_reducible refine SN X 256 ?_ ?_ ?_ (hn:=lX.out) (ho:=zsz.out) (h1:=oX.out));rfl;rfl;intro w2 a5 bw2 k2 z2;clear k2 z2))
 have b12:=bw1.trans (bw2.mono bw1.size)
 obtain⟨g,hg⟩:=Nm (w1.heap.size)
 rw[← hg] at a5
 rw[← hg]
 have hRg:H+2<g:=by have:=bw1.size;omega
 replace hg:=Hy hg
 replace bW:=bW.trans (b12.mono bW.size)
 replace aR:=aR.b b12
 replace aT:=aT.b b12
 clear bw1 bw2 b12 aU
 go_upto_region 3 with (first
  |((with_reducible refine LF aT 4 lT.out SV ?_ ?_);rfl)
  |(go_at_call 93;refine(HY.out _).mono ?_;rintro e w3 ⟨rfl,bw3⟩)
  |((with_reducible refine SN Y 256 ?_ ?_ ?_ (hn:=lY.out) (ho:=zsz.out) (h1:=oY.out));rfl;rfl;intro w4 a6 bw4 k2 z2;clear k2 z2))
 have b34:=bw3.trans (bw4.mono bw3.size)
 obtain⟨g',hg'⟩:∃ g,g=w3.heap.size:=⟨_,rfl⟩
 rw[← hg'] at a6
 rw[← hg']
 have hgg:g<g':=by have:=bw3.size;have:=a5.lt;omega
 have bw:=bW.trans (b34.mono bW.size)
 replace aR:=aR.b b34
 replace a5:=a5.b b34
 rw[← hS.out] at a5
 replace hg':=Hy hg'
 have hHw:w.heap.size≤H+2:=by rw[hH.out];omega
 clear bw3 bw4 b34 aT bW hWs
 go_upto_region 5 with fail
 go_loopw [8,9] (fun cv iv wr=>∃ k:Nat,k≤256∧iv= .int .i64 (k:Int)∧cv= .int .i64 (tG a b k:Int)∧Below w.heap.size w wr∧Av wr (H+2) 158 [.int .u64 0,.int .u64 0,.int .u64 0,.int .u64 0]∧Av wr g 202 (Bf A a k)∧Av wr g' 202 Y) (fun _ iv _=>256 - (intOf iv).toNat)
 case atStart=>exact⟨0,by omega,rfl,by simp[tG,FH],bw,aR,a5,a6⟩
 case round=>
  clear bw aR a5 a6
  obtain⟨k,hk,rfl,rfl,bw,aR,a5,a6⟩:=hrel
  by_cases hlt:k<256
  ·refine Xm106 ?_;intro t1 k0 k1 hset cX cY hl hnk hd2 hb2 d hd f hf q hq
   obtain⟨c,hc⟩:=Nm (tG a b k)
   obtain⟨m,hm⟩:=Nm (tG a b (k+1))
   refine Xm132 ?_;try clear hd2 cX hb2 cY hnk a5 hl hset hd hf hq hc hm;intro hd2 cX hb2 cY hnk hq2 M a5 hl hset hd hf hq hc hm hM
   obtain⟨s,hs⟩:=Nm (d+f+c)
   obtain⟨s1,hs1⟩:=Nm (d+f)
   have e1:IntKind.i64.wrap ((d:Int)+(f:Int))=(s1:Int):=by rw[IntKind.wrap_i64];omega
   have e2:IntKind.i64.wrap ((s1:Int)+(c:Int))=(s:Int):=by rw[IntKind.wrap_i64];omega
   have e3:Int.tmod (s:Int) 2=(q:Int):=by rw[Int.tmod_eq_emod_of_nonneg OM];omega
   have e4:Int.tdiv (s:Int) 2=(m:Int):=by rw[Int.tdiv_eq_ediv_of_nonneg OM];omega
   have hm2:m<2:=by omega
   clear hs hs1 hnk hd2 hb2
   go_upto_region 7 with fail
   go_quiet (fail)
   have bd:=below_drewN (Below.refl wr.heap.size wr) nq
   generalize wr.drewN nq=wd at*
   replace bw:=bw.trans (bd.mono bw.size)
   replace aR:=aR.b bd
   replace a5:=a5.b bd
   replace a6:=a6.b bd
   clear e1 e2 bd cX cY
   go_upto_region 6 with ((with_reducible refine cR 3 a5 hl .i64 (q:Int) ?_ ?_ mS ?_);rfl;rfl;intro w4 a4 f4)
   rw[hset.out] at a4
   have aR4:=f4.av aR OM
   have b4:=bw.trans (f4.b (B:=w.heap.size) (fun k hk=>by omega) bw.size)
   have a64:=f4.av a6 OM
   clear aR a5 a6 bw f4
   go_wp2
   refine⟨⟨k+1,by omega,by go_num,by rw[hm.out],b4,aR4,a4,a64⟩,?_⟩
   simp[intOf]
   omega
  ·obtain rfl:k=256:=by omega
   have t1:decide ((256:Int)<256)=false:=by simp
   have lY:=Hy (nK A a 256)
   have q1:=hend.out
   obtain⟨c,hc⟩:=Nm (tG a b 256)
   exact Xc73
theorem Xc89 {p:Prop} (h:p:=by
 go_upto_region 6 with ((with_reducible refine cR 3 a5 hl .i64 (q:Int) ?_ ?_ mS ?_);rfl;rfl;intro w4 a4 f4)
 rw[hset.out] at a4
 have aR4:=f4.av aR OM
 have a64:=f4.av a6 OM
 have b4:=bw.trans (f4.b (B:=w.heap.size) (fun k hk=>by omega) bw.size)
 clear aR a5 a6 bw f4
 go_wp2
 refine⟨⟨k+1,by omega,by go_num,by rw[← hm.out];rfl,b4,aR4,a4,a64⟩,?_⟩
 simp[intOf]
 omega):p:=h
theorem Rp (a b:Nat) (ha:a<2 ^ 256) (hb:b<2 ^ 256) (w:World):
  Calls prog 126 #[.agg (uc a).toArray,.agg (uc b).toArray] w fun e w'=>e= .returned (.tuple #[.agg (uc ((2 ^ 256+a - b) % 2 ^ 256)).toArray,.bool (decide (a<b))])∧Below w.heap.size w w':=by
 have hn:∀ k,k<256→2*tH a b (k+1)+cS a k=cS b k+tH a b k+cS (2 ^ 256+a - b) k∧tH a b k<2:=fun k hk=>⟨GL a b k ha hb hk,Ma a b k⟩
 have hend:=Ja a b ha hb
 obtain⟨A,hA⟩:=Nm ((2 ^ 256+a - b))
 have HN0:=qK A
 have hE:=Bg A a
 have hS:=IX A a
 obtain⟨Q,hQ⟩:=Nm (decide (a<b))
 rw[← hQ,← hA]
 rw[← hA] at hn
 obtain⟨X,hX⟩:=Nm (jB a 256)
 obtain⟨Y,hY⟩:=Nm (jB b 256)
 obtain⟨V,hV⟩:=Nm (uc a)
 obtain⟨T,hT⟩:=Nm (uc b)
 obtain⟨Z,hZ⟩:=Nm (uc (A % 2 ^ 256))
 rw[← hV,← hT,← hZ]
 obtain⟨W,hW⟩:=Nm (((w.alloc (.cells V.toArray 158)).alloc (.cells T.toArray 158)).alloc (.cells #[.int .u64 0,.int .u64 0,.int .u64 0,.int .u64 0] 158))
 obtain⟨H,hH⟩:=Nm (w.heap.size)
 have e:∀ (v:World) (o:Obj),(v.alloc o).heap.size=v.heap.size+1:=fun v o=>by simp
 have bW:Below w.heap.size w W:=by rw[hW];exact(((Below.refl _ _).alloc LR _).alloc zS _).alloc zU _
 have aU:Av W H 158 V:=by rw[hW,hH];exact Av.alloc (heap_alloc2_old _ _ _) _
 have aT:Av W (H+1) 158 T:=by rw[hW,hH];exact Av.alloc (heap_alloc2_new _ _ _) _
 have aR:Av W (H+2) 158 [.int .u64 0,.int .u64 0,.int .u64 0,.int .u64 0]:=by
  have:=heap_alloc_new ((w.alloc (.cells V.toArray 158)).alloc (.cells T.toArray 158)) (.cells #[.int .u64 0,.int .u64 0,.int .u64 0,.int .u64 0] 158)
  rw[e,e] at this
  rw[hW,hH];exact this
 have hWs:W.heap.size=H+3:=by rw[hW,hH,e,e,e]
 have lU:Hid (V.length=4):=Hy (by rw[hV];rfl)
 have lT:Hid (T.length=4):=Hy (by rw[hT];rfl)
 have lX:Hid (X.length=256):=Hy (by rw[hX];exact eG a 256)
 have oX:Hid (X.all (·.oneCell')=true):=Hy (by rw[hX];exact List.all_eq_true.2 (pG a 256))
 have lY:Hid (Y.length=256):=Hy (by rw[hY];exact eG b 256)
 have oY:Hid (Y.all (·.oneCell')=true):=Hy (by rw[hY];exact List.all_eq_true.2 (pG b 256))
 have zsz:=Hy Ot
 have HX:=pI a
 rw[← hX,← hV] at HX
 have HY:=pI b
 rw[← hY,← hT] at HY
 have hYc:∀ k,k<256→Y[k]? =some (.int .i64 (cS b k:Int)):=fun k h=>by rw[hY,kQ b 256 k h,if_pos h]
 rw[← hZ,← hE] at HN0
 rw[← hX] at hS
 have HN:=Hy HN0
 replace HX:=Hy HX
 replace HY:=Hy HY
 clear HN0 hE ha hb e
 have lZ:Hid (Z.length=4):=Hy (by rw[hZ];rfl)
 have oZ:Hid (Z.all (·.oneCell')=true):=Hy (by rw[hZ];rfl)
 replace hA:=Hy hA
 replace hX:=Hy hX
 replace hY:=Hy hY
 replace hV:=Hy hV
 replace hT:=Hy hT
 replace hZ:=Hy hZ
 replace hW:=Hy hW
 replace hH:=Hy hH
 replace hS:=Hy hS
 replace hn:=Hy hn
 replace hYc:=Hy hYc
 replace hQ:=Hy hQ
 replace hend:=Hy hend
 go_enter func126,ntmps126
 go_upto_region 1 with fail
 rw[← hW.out,← hH.out]
 go_upto_region 2 with (first
  |((with_reducible refine LF aU 4 lU.out SV ?_ ?_);rfl)
  |(go_at_call 93;refine(HX.out _).mono ?_;rintro e w1 ⟨rfl,bw1⟩)
  |((with_reducible refine SN X 256 ?_ ?_ ?_ (hn:=lX.out) (ho:=zsz.out) (h1:=oX.out));rfl;rfl;intro w2 a5 bw2 k2 z2;clear k2 z2))
 have b12:=bw1.trans (bw2.mono bw1.size)
 obtain⟨g,hg⟩:=Nm (w1.heap.size)
 rw[← hg] at a5
 rw[← hg]
 have hRg:H+2<g:=by have:=bw1.size;omega
 replace hg:=Hy hg
 replace bW:=bW.trans (b12.mono bW.size)
 replace aR:=aR.b b12
 replace aT:=aT.b b12
 clear bw1 bw2 b12 aU
 go_upto_region 3 with (first
  |((with_reducible refine LF aT 4 lT.out SV ?_ ?_);rfl)
  |(go_at_call 93;refine(HY.out _).mono ?_;rintro e w3 ⟨rfl,bw3⟩)
  |((with_reducible refine SN Y 256 ?_ ?_ ?_ (hn:=lY.out) (ho:=zsz.out) (h1:=oY.out));rfl;rfl;intro w4 a6 bw4 k2 z2;clear k2 z2))
 have b34:=bw3.trans (bw4.mono bw3.size)
 obtain⟨g',hg'⟩:∃ g,g=w3.heap.size:=⟨_,rfl⟩
 rw[← hg'] at a6
 rw[← hg']
 have hgg:g<g':=by have:=bw3.size;have:=a5.lt;omega
 have bw:=bW.trans (b34.mono bW.size)
 replace aR:=aR.b b34
 replace a5:=a5.b b34
 rw[← hS.out] at a5
 replace hg':=Hy hg'
 have hHw:w.heap.size≤H+2:=by rw[hH.out];omega
 clear bw3 bw4 b34 aT bW hWs
 go_upto_region 5 with fail
 go_loopw [8,9] (fun cv iv wr=>∃ k:Nat,k≤256∧iv= .int .i64 (k:Int)∧cv= .int .i64 (tH a b k:Int)∧Below w.heap.size w wr∧Av wr (H+2) 158 [.int .u64 0,.int .u64 0,.int .u64 0,.int .u64 0]∧Av wr g 202 (Bf A a k)∧Av wr g' 202 Y) (fun _ iv _=>256 - (intOf iv).toNat)
 case atStart=>exact⟨0,by omega,rfl,by simp[tH,FH],bw,aR,a5,a6⟩
 case round=>
  clear bw aR a5 a6
  obtain⟨k,hk,rfl,rfl,bw,aR,a5,a6⟩:=hrel
  by_cases hlt:k<256
  ·refine Xm106 ?_;intro t1 k0 k1 hset cX cY hl hnk hd2 hb2 d hd f hf q hq
   obtain⟨c,hc⟩:=Nm (tH a b k)
   obtain⟨m,hm⟩:=Nm (tH a b (k+1))
   refine Xm132 ?_;try clear hd2 cX hb2 cY hnk a5 hl hset hd hf hq hc hm;intro hd2 cX hb2 cY hnk hq2 M a5 hl hset hd hf hq hc hm hM
   obtain⟨s1,hs1⟩:=Nm ((d:Int) - (f:Int))
   obtain⟨s,hs⟩:=Nm (s1 - (c:Int))
   have e1:IntKind.i64.wrap ((d:Int) - (f:Int))=s1:=by rw[IntKind.wrap_i64];omega
   have e2:IntKind.i64.wrap (s1 - (c:Int))=s:=by rw[IntKind.wrap_i64];omega
   have hm2:m<2:=by omega
   have hsm:(s<0→m=1∧s+2=(q:Int))∧(¬ s<0→m=0∧s=(q:Int)):=by omega
   replace hsm:=Hy hsm
   clear hs hs1 hnk hd2 hb2
   go_upto_region 7 with fail
   go_quiet (fail)
   have bd:=below_drewN (Below.refl wr.heap.size wr) nq
   generalize wr.drewN nq=wd at*
   replace bw:=bw.trans (bd.mono bw.size)
   replace aR:=aR.b bd
   replace a5:=a5.b bd
   replace a6:=a6.b bd
   clear e1 e2 bd cX cY
   by_cases h0:s<0
   ·have t3:decide (s<0)=true:=by simp;omega
    obtain⟨rfl,hsq⟩:=hsm.out.1 h0
    have e3:IntKind.i64.wrap (s+2)=(q:Int):=by rw[IntKind.wrap_i64];omega
    clear h0 hsq
    exact Xc89
   ·have t3:decide (s<0)=false:=by simp;omega
    obtain⟨rfl,rfl⟩:=hsm.out.2 h0
    clear h0
    exact Xc89
  ·obtain rfl:k=256:=by omega
   have t1:decide ((256:Int)<256)=false:=by simp
   have lY:=Hy (nK A a 256)
   have q1:=hend.out
   obtain⟨c,hc⟩:=Nm (tH a b 256)
   exact Xc73
end Go.Proofs.YtobjgebojhjhnaaGreatDoor
