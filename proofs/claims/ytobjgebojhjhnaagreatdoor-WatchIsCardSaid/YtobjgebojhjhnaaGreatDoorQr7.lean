import Derived.Deep.Cut
import Derived.Test.YtobjgebojhjhnaaGreatDoorQr6
import Derived.Test.YtobjgebojhjhnaaGreatDoorQr5
namespace Go.Proofs.YtobjgebojhjhnaaGreatDoor
set_option maxRecDepth 100000
set_option maxHeartbeats 16000000
open Go.RowKit Tryz
abbrev fS (a b c d:Nat):List Value:=[.int .u64 (a:Int),.int .u64 (b:Int),.int .u64 (c:Int),.int .u64 (d:Int)]
def lim (n i:Nat):Nat:=n / 18446744073709551616 ^ i % 18446744073709551616
def uc (n:Nat):List Value:=fS (lim n 0) (lim n 1) (lim n 2) (lim n 3)
theorem fG (n i:Nat):lim n i<18446744073709551616:=Nat.mod_lt _ DC
theorem uL {n:Nat} (h:n<18446744073709551616):lim n 0=n∧lim n 1=0∧lim n 2=0∧lim n 3=0:=by
 unfold lim
 refine⟨?_,?_,?_,?_⟩
 ·rw[Nat.pow_zero,Nat.div_one,Nat.mod_eq_of_lt h]
 ·rw[Nat.pow_one,Nat.div_eq_of_lt h]
 ·rw[Nat.div_eq_of_lt OM]
 ·rw[Nat.div_eq_of_lt OM]
theorem qJ {n:Nat} (h:n<18446744073709551616):uc n=fS n 0 0 0:=by
 obtain⟨h0,h1,h2,h3⟩:=uL h
 rw[uc,h0,h1,h2,h3]
theorem vU {n:Nat} (h:n<115792089237316195423570985008687907853269984665640564039457584007913129639936):
  n=lim n 0+18446744073709551616*lim n 1+340282366920938463463374607431768211456*lim n 2+6277101735386680763835789423207666416102355444464034512896*lim n 3:=by
 unfold lim
 rw[Nat.pow_zero,Nat.div_one,Nat.pow_one,show 18446744073709551616 ^ 2=340282366920938463463374607431768211456 from rfl,show 18446744073709551616 ^ 3=6277101735386680763835789423207666416102355444464034512896 from rfl]
 omega
theorem Oh (a b c d:Nat) (ha:a<18446744073709551616) (hb:b<18446744073709551616) (hc:c<18446744073709551616) (hd:d<18446744073709551616):
  ∃ n,n<115792089237316195423570985008687907853269984665640564039457584007913129639936∧n=a+18446744073709551616*b+340282366920938463463374607431768211456*c+6277101735386680763835789423207666416102355444464034512896*d∧lim n 0=a∧lim n 1=b∧lim n 2=c∧lim n 3=d:=by
 refine⟨_,?_,rfl,?_,?_,?_,?_⟩
 ·omega
 all_goals unfold lim
 ·rw[Nat.pow_zero,Nat.div_one];omega
 ·rw[Nat.pow_one];omega
 ·rw[show 18446744073709551616 ^ 2=340282366920938463463374607431768211456 from rfl];omega
 ·rw[show 18446744073709551616 ^ 3=6277101735386680763835789423207666416102355444464034512896 from rfl];omega
theorem Sf (n:Nat) (h:n<18446744073709551616) (w:World):Calls prog 85 #[.int .u64 (n:Int)] w fun e w'=>e= .returned (.agg (uc n).toArray)∧Below w.heap.size w w':=by
 rw[qJ h]
 go_enter func85,ntmps85
 go_wp2_with ((with_reducible refine SN (fS n 0 0 0) 4 ?_ ?_ ?_);rfl;rfl;intro w6 a6 b6 k6 z6)
 refine bodyPost_ret (results_cell_row rfl _ _ w.heap.size _ _ (0,0) _ bM a6 SU rfl KR) rfl ⟨rfl,b6⟩
open Go.RowKit
def cS (a i:Nat):Nat:=a / 2 ^ i % 2
def jB (a m:Nat):List Value:=(List.range 256).map fun i=>.int .i64 ((if i<m then cS a i else 0:Nat):Int)
theorem eG (a m:Nat):(jB a m).length=256:=by simp[jB]
theorem pG (a m:Nat):∀ u ∈ jB a m,u.oneCell'=true:=by
 intro u hu
 obtain⟨i,_,rfl⟩:=List.mem_map.1 hu
 rfl
theorem PR (a:Nat):jB a 0=List.replicate 256 (.int .i64 0):=by
 rw[jB,List.eq_replicate_iff]
 refine⟨by simp,fun b hb=>?_⟩
 obtain⟨i,_,rfl⟩:=List.mem_map.1 hb
 rfl
theorem kQ (a m i:Nat) (h:i<256):(jB a m)[i]? =some (.int .i64 ((if i<m then cS a i else 0:Nat):Int)):=by
 simp[jB,h]
theorem AW (a m:Nat) (h:m<256):(jB a m).set m (.int .i64 (cS a m:Int))=jB a (m+1):=by
 apply List.ext_getElem?
 intro i
 rw[List.getElem?_set]
 by_cases e:m=i
 ·subst e
  rw[if_pos rfl,if_pos (by rw[eG];exact h),kQ a (m+1) m h,if_pos OM]
 ·rw[if_neg e]
  by_cases hi:i<256
  ·rw[kQ a m i hi,kQ a (m+1) i hi]
   by_cases h2:i<m
   ·rw[if_pos h2,if_pos OM]
   ·rw[if_neg h2,if_neg OM]
  ·rw[List.getElem?_eq_none (by rw[eG];omega),List.getElem?_eq_none (by rw[eG];omega)]
theorem mF (a i:Nat):cS a i<2:=Nat.mod_lt _ OM
theorem tC (n j k:Nat):(lim n j).testBit k=(decide (k<64) && n.testBit (64*j+k)):=by
 unfold lim
 rw[show (18446744073709551616:Nat)=2 ^ 64 from by decide,← Nat.pow_mul,Nat.testBit_mod_two_pow,Nat.testBit_div_two_pow]
 rw[Nat.add_comm]
theorem ID (n i:Nat):lim n (i / 64) / 2 ^ (i % 64) % 2=cS n i:=by
 unfold cS
 have h:=tC n (i / 64) (i % 64)
 rw[Nat.testBit_eq_decide_div_mod_eq,Nat.testBit_eq_decide_div_mod_eq,show 64*(i / 64)+i % 64=i by omega] at h
 have h1:i % 64<64:=Nat.mod_lt _ OM
 simp only[h1,decide_true,Bool.true_and,decide_eq_decide] at h
 omega
theorem Oi (n i:Nat) (h:n<2 ^ i) (j:Nat):lim (n+2 ^ i) j=if j=i / 64 then lim n j |||2 ^ (i % 64) else lim n j:=by
 have e:n+2 ^ i=n |||2 ^ i:=by
  have:=Nat.two_pow_add_eq_or_of_lt h 1
  rw[Nat.mul_one] at this
  rw[Nat.add_comm,this,Nat.or_comm]
 apply Nat.eq_of_testBit_eq
 intro k
 rw[e,tC,Nat.testBit_or,Nat.testBit_two_pow]
 split
 ·rename_i e
  subst e
  rw[Nat.testBit_or,tC,Nat.testBit_two_pow]
  by_cases hk:k<64
  ·have:(i=64*(i / 64)+k)↔(i % 64=k):=by omega
   simp[hk,this]
  ·have:i % 64≠k:=by omega
   simp[hk,this]
 ·rw[tC]
  by_cases hk:k<64
  ·have:i≠64*j+k:=by omega
   simp[hk,this]
  ·simp[hk]
theorem IE (n i:Nat):n % 2 ^ (i+1)=n % 2 ^ i+cS n i*2 ^ i:=by
 rw[Nat.pow_succ,Nat.mod_mul,Nat.mul_comm,cS]
theorem IF (n i:Nat) (j:Nat):lim (n % 2 ^ (i+1)) j=if j=i / 64 then lim (n % 2 ^ i) j |||(cS n i*2 ^ (i % 64)) else lim (n % 2 ^ i) j:=by
 rw[IE]
 have h2:=mF n i
 have hl:n % 2 ^ i<2 ^ i:=Nat.mod_lt _ (Nat.two_pow_pos i)
 generalize cS n i=d at*
 obtain rfl|rfl:d=0∨d=1:=by omega
 ·simp
 ·rw[Nat.one_mul,Nat.one_mul];exact Oi _ i hl j
theorem LD (n i:Nat) (h:i<256):(uc (n % 2 ^ i)).set (i / 64) (.int .u64 ((lim (n % 2 ^ i) (i / 64) |||(cS n i*2 ^ (i % 64)):Nat):Int))=uc (n % 2 ^ (i+1)):=by
 have e:=IF n i
 have hq:i / 64<4:=by omega
 have e0:=e 0
 have e1:=e 1
 have e2:=e 2
 have e3:=e 3
 simp only[uc]
 rw[e0,e1,e2,e3]
 generalize i / 64=q at*
 rcases q with _|_|_|_|q
 ·simp
 ·simp
 ·simp
 ·simp
 ·omega
theorem LI (a m:Nat) (h:256≤m):jB a m=jB a (m+1):=by
 unfold jB
 refine List.map_congr_left fun i hi=>?_
 rw[List.mem_range] at hi
 rw[if_pos OM,if_pos OM]
theorem IG (a m:Nat) (h:cS a m=0):jB a m=jB a (m+1):=by
 unfold jB
 refine List.map_congr_left fun i _=>?_
 by_cases e:i=m
 ·subst e;rw[if_neg OM,if_pos OM,h]
 ·by_cases h2:i<m
  ·rw[if_pos h2,if_pos OM]
  ·rw[if_neg h2,if_neg OM]
theorem AX (a m:Nat) (h:∀ i,i<m→cS a i=0):jB a m=jB a 0:=by
 unfold jB
 refine List.map_congr_left fun i _=>?_
 by_cases h2:i<m
 ·rw[if_pos h2,h i h2,if_neg OM]
 ·rw[if_neg h2,if_neg OM]
theorem IH (a n i:Nat):cS (a*2 ^ n) (i+n)=cS a i:=by
 unfold cS
 rw[Nat.pow_add,Nat.mul_div_mul_right _ _ (Nat.two_pow_pos n)]
theorem AY (a n i:Nat) (h:i<n):cS (a*2 ^ n) i=0:=by
 unfold cS
 rw[show n=i+(n - i - 1+1) by omega,Nat.pow_add,← Nat.mul_assoc,Nat.mul_right_comm,Nat.mul_div_cancel _ (Nat.two_pow_pos i),Nat.pow_succ,← Nat.mul_assoc]
 exact Nat.mul_mod_left _ _
theorem wH (a n i:Nat):cS (a / 2 ^ n) i=cS a (i+n):=by
 unfold cS
 rw[Nat.div_div_eq_div_mul,← Nat.pow_add,Nat.add_comm]
theorem AZ (a i:Nat) (h:a<2 ^ i):cS a i=0:=by
 unfold cS
 rw[Nat.div_eq_of_lt h]
theorem GF (a n i:Nat):decide (2 ^ 256≤a % 2 ^ (i+1)*2 ^ n)=(decide (2 ^ 256≤a % 2 ^ i*2 ^ n) || (decide (256≤i+n) && cS a i==1)):=by
 rw[IE]
 have h2:=mF a i
 have hl:a % 2 ^ i<2 ^ i:=Nat.mod_lt _ (Nat.two_pow_pos i)
 have hp:=Nat.two_pow_pos n
 generalize cS a i=d at*
 generalize a % 2 ^ i=x at*
 obtain rfl|rfl:d=0∨d=1:=by omega
 ·simp
 ·by_cases hi:256≤i+n
  ·have:2 ^ 256≤(x+1*2 ^ i)*2 ^ n:=by
    rw[Nat.add_mul,Nat.one_mul,← Nat.pow_add]
    exact Nat.le_trans (Nat.pow_le_pow_right OM hi) (Nat.le_add_left _ _)
   rw[decide_eq_true this,decide_eq_true hi]
   simp
  ·have h3:(x+1*2 ^ i)*2 ^ n<2 ^ 256:=by
    have:(x+1*2 ^ i)*2 ^ n<2 ^ (i+1)*2 ^ n:=by
     apply Nat.mul_lt_mul_of_pos_right _ hp
     rw[Nat.pow_succ];omega
    rw[← Nat.pow_add] at this
    exact Nat.lt_of_lt_of_le this (Nat.pow_le_pow_right OM OM)
   have h4:x*2 ^ n<2 ^ 256:=Nat.lt_of_le_of_lt (Nat.mul_le_mul_right _ (Nat.le_add_right _ _)) h3
   rw[decide_eq_false OM,decide_eq_false OM,decide_eq_false hi]
   rfl
theorem zO (a b i:Nat) (h:a / 2 ^ (i+1)=b / 2 ^ (i+1)):(cS a i=cS b i→a / 2 ^ i=b / 2 ^ i)∧(cS a i<cS b i→a<b):=by
 have e:∀ x:Nat,x / 2 ^ i=2*(x / 2 ^ (i+1))+cS x i:=fun x=>by
  unfold cS
  rw[Nat.pow_succ,← Nat.div_div_eq_div_mul]
  omega
 refine⟨fun k=>by rw[e a,e b,h,k],fun k=>?_⟩
 have:a / 2 ^ i<b / 2 ^ i:=by rw[e a,e b,h];omega
 exact Nat.lt_of_not_le fun hle=>Nat.not_le_of_lt this (Nat.div_le_div_right hle)
theorem Pb {α:Type} {l:List α} (h:l.length=32):∃ v0 v1 v2 v3 v4 v5 v6 v7 v8 v9 v10 v11 v12 v13 v14 v15 v16 v17 v18 v19 v20 v21 v22 v23 v24 v25 v26 v27 v28 v29 v30 v31,l= [v0,v1,v2,v3,v4,v5,v6,v7,v8,v9,v10,v11,v12,v13,v14,v15,v16,v17,v18,v19,v20,v21,v22,v23,v24,v25,v26,v27,v28,v29,v30,v31]:=by
 match l,h with
 | [v0,v1,v2,v3,v4,v5,v6,v7,v8,v9,v10,v11,v12,v13,v14,v15,v16,v17,v18,v19,v20,v21,v22,v23,v24,v25,v26,v27,v28,v29,v30,v31],_=>exact⟨v0,v1,v2,v3,v4,v5,v6,v7,v8,v9,v10,v11,v12,v13,v14,v15,v16,v17,v18,v19,v20,v21,v22,v23,v24,v25,v26,v27,v28,v29,v30,v31,rfl⟩
theorem JY (T:TypeId) (hT:T=91∨T=97) (p:List UInt8) (hp:p.length=32) (i q:Int) (A:Option Addr) (n c:Nat):
  prog.built T [(0,.agg (p.map bv).toArray),(1,.int .u32 i),(2,.slice A n c),(3,.int .u32 q)]=some (p.map bv++([.int .u32 i,.slice A n c,.int .u32 q]:List Value)).toArray:=by
 obtain⟨v0,v1,v2,v3,v4,v5,v6,v7,v8,v9,v10,v11,v12,v13,v14,v15,v16,v17,v18,v19,v20,v21,v22,v23,v24,v25,v26,v27,v28,v29,v30,v31,rfl⟩:=Pb hp
 rcases hT with rfl|rfl
 ·kernel_rfl
 ·kernel_rfl
theorem zF {o:Oper} {ρ:Operand→Value} (T:TypeId) (hT:T=91∨T=97) (p:List UInt8) (hp:p.length=32) (i q:Int) (A:Option Addr) (n c:Nat) (w:World) (a b d e:Operand)
  (ho:o.op= .build T #[(0,a),(1,b),(2,d),(3,e)]) (ha:ρ a= .agg (p.map bv).toArray) (hb:ρ b= .int .u32 i) (hd:ρ d= .slice A n c) (he:ρ e= .int .u32 q):
  (execOp ρ o).run prog w= .ok (.value (.agg (p.map bv++([.int .u32 i,.slice A n c,.int .u32 q]:List Value)).toArray)) w:=by
 have:=run_build (P:=prog) w T #[(0,.agg (p.map bv).toArray),(1,.int .u32 i),(2,.slice A n c),(3,.int .u32 q)] _ (JY T hT p hp i q A n c)
 unfold execOp
 simp only[ho,Sem.run_bind,List.map_toArray,List.map_cons,List.map_nil,ha,hb,hd,he,this,Result.andThen_ok]
 rfl
theorem vO (T:TypeId) (hT:T=91∨T=97) (p:List UInt8) (hp:p.length=32) (i q:Int) (A:Option Addr) (n c:Nat) {ops:Array Oper} {rest:List Oper} {a:Act} {w:World} {Q:Exit→Act→World→Prop} {d tp pos af} {x0 x1 x2 x3:Operand}
  (h0:a.eval x0= .agg (p.map bv).toArray) (h1:a.eval x1= .int .u32 i) (h2:a.eval x2= .slice A n c) (h3:a.eval x3= .int .u32 q)
  (k:wpList prog ops Q rest (a.put d (.agg (p.map bv++([.int .u32 i,.slice A n c,.int .u32 q]:List Value)).toArray)) w):wpList prog ops Q (⟨d,.build T #[(0,x0),(1,x1),(2,x2),(3,x3)],tp,pos,af,none⟩ :: rest) a w:=
 eF rfl (zF T hT p hp i q A n c w _ _ _ _ rfl h0 h1 h2 h3) k
def vG (t:FZ):Bool:=(t.ins.all fun i=>decide (i.scr.length≤300)) && (t.outs.all fun o=>decide (o.scr.length≤300)) && decide (t.ins.length≤20) && decide (t.outs.length≤20)
theorem AA (t:FZ):vG t=true↔(∀ i ∈ t.ins,i.scr.length≤300)∧(∀ o ∈ t.outs,o.scr.length≤300)∧t.ins.length≤20∧t.outs.length≤20:=by
 simp only[vG,Bool.and_eq_true,decide_eq_true_eq,List.all_eq_true]
 constructor
 ·rintro⟨⟨⟨a,b⟩,c⟩,d⟩;exact⟨a,b,c,d⟩
 ·rintro⟨a,b,c,d⟩;exact⟨⟨⟨a,b⟩,c⟩,d⟩
theorem Xc145 {p:Prop} (h:p:=by
 go_wp2
 go_ret
 refine⟨?_,bW⟩
 have:b=false:=by
  cases b
  ·rfl
  ·have:=(hsane.out.1 rfl).2.1 e (List.mem_of_getElem? he.out)
   rw[hq.out] at this
   exact absurd this hq1
 rw[this];rfl):p:=h
theorem Xc138 {p:Prop} (h:p:=by
 go_wp2
 go_round
 case rel=>
  refine⟨k+1,by omega,by go_num,Hy ?_⟩
  intro e' he'
  rcases dJ he.out he' with h|rfl
  ·exact hall.out e' h
  ·rw[hq.out];exact hq1
 case measure=>simp[intOf];omega):p:=h
theorem Xc137 {p:Prop} (h:p:=by
 go_wp2
 go_round
 case rel=>
  refine⟨j+1,by omega,by go_num,Hy ?_⟩
  intro e' he'
  rcases dJ he.out he' with h|rfl
  ·exact hall2.out e' h
  ·rw[hq.out];exact hq1
 case measure=>simp[intOf];omega):p:=h
theorem Qv (ver lock:Nat) (l:List (lI × Sl)) (m:List (fA × Sl)) (A1 A2:Option Addr) (n1 n2 c1 c2:Nat) (hn1:l.length=n1) (hn2:m.length=n2) (hm1:n1≤maxLen) (hm2:n2≤maxLen) (w:World) (h1:fB w A1 l) (h2:dH w A2 m):
  Calls prog 6 #[.agg #[.int .u32 (ver:Int),.slice A1 n1 c1,.slice A2 n2 c2,.int .u32 (lock:Int)]] w fun e w'=>e= .returned (.bool (vG (cQ ver l m lock)))∧Below w.heap.size w w':=by
 obtain⟨b,hb⟩:=Nm (vG (cQ ver l m lock))
 have hsane:=AA (cQ ver l m lock)
 simp only[cQ,List.length_map,hn1,hn2,List.forall_mem_map] at hsane
 rw[← hb]
 rw[show FZ.mk ver (l.map (·.1)) (m.map (·.1)) lock=cQ ver l m lock from rfl,← hb] at hsane
 clear hb
 unfold maxLen at hm1 hm2
 replace hn1:=Hy hn1
 replace hn2:=Hy hn2
 replace hsane:=Hy hsane
 obtain⟨W,hW⟩:=Nm (w.alloc (.cells #[.int .u32 (ver:Int),.slice A1 n1 c1,.slice A2 n2 c2,.int .u32 (lock:Int)] 32))
 have bW:Below w.heap.size w W:=by rw[hW];exact(Below.refl _ _).alloc LR _
 have aW:Av W w.heap.size 32 [.int .u32 (ver:Int),.slice A1 n1 c1,.slice A2 n2 c2,.int .u32 (lock:Int)]:=by rw[hW];exact heap_alloc_new _ _
 go_enter func6,ntmps6
 go_upto_region 1 with fail
 rw[← hW]
 have hW':=Hy hW
 clear hW
 have q1:=aW.cell 1 _ rfl
 have q2:=aW.cell 2 _ rfl
 go_wp2
 go_loop [3] (fun i=>∃ k:Nat,k≤n1∧i= .int .i64 (k:Int)∧Hid (∀ e ∈ l.take k,e.1.scr.length≤300)) (fun i=>n1 - (intOf i).toNat)
 case atStart=>exact⟨0,by omega,rfl,Hy zS⟩
 case round=>
  obtain⟨k,hk,rfl,hall⟩:=hrel
  by_cases hlt:k<n1
  ·have t4:decide ((k:Int)<(n1:Int))=true:=by simp;omega
   obtain⟨e,he⟩:∃ e,l[k]? =some e:=⟨_,List.getElem?_eq_getElem (by rw[hn1.out];exact hlt)⟩
   obtain⟨b1,off,rfl⟩:=h1.adr (by rw[hn1.out];omega)
   obtain⟨hrng,hin⟩:=(h1.b bW).nth k e he
   obtain⟨i32,i33,i34⟩:=uU hin
   obtain⟨q,hq⟩:∃ q,e.1.scr.length=q:=⟨_,rfl⟩
   rw[hq] at i33
   have hc:=hrng 33 _ i33
   have m0:0≤(k:Int):=by omega
   have m1:(k:Int)<(n1:Int):=by omega
   clear i32 i33 i34 hin hrng
   replace he:=Hy he
   replace hq:=Hy hq
   by_cases hq1:q≤300
   ·have t5:decide ((300:Int)<(q:Int))=false:=by simp;omega
    exact Xc138
   ·have t5:decide ((300:Int)<(q:Int))=true:=by simp;omega
    go_wp2
    go_ret
    refine⟨?_,bW⟩
    have:b=false:=by
     cases b
     ·rfl
     ·have:=(hsane.out.1 rfl).1 e (List.mem_of_getElem? he.out)
      rw[hq.out] at this
      exact absurd this hq1
    rw[this];rfl
  ·obtain rfl:n1=k:=by omega
   have t4:decide ((n1:Int)<(n1:Int))=false:=by simp
   go_wp2
   go_loop [4] (fun i=>∃ j:Nat,j≤n2∧i= .int .i64 (j:Int)∧Hid (∀ e ∈ m.take j,e.1.scr.length≤300)) (fun i=>n2 - (intOf i).toNat)
   case atStart=>exact⟨0,by omega,rfl,Hy zS⟩
   case round=>
    obtain⟨j,hj,rfl,hall2⟩:=hrel
    by_cases hlt2:j<n2
    ·have t5:decide ((j:Int)<(n2:Int))=true:=by simp;omega
     obtain⟨e,he⟩:∃ e,m[j]? =some e:=⟨_,List.getElem?_eq_getElem (by rw[hn2.out];exact hlt2)⟩
     obtain⟨b1,off,rfl⟩:=h2.adr (by rw[hn2.out];omega)
     obtain⟨hrng,hin⟩:=(h2.b bW).nth j e he
     obtain⟨q,hq⟩:∃ q,e.1.scr.length=q:=⟨_,rfl⟩
     have i33:(kB e)[1]? =some (BE q e.2):=by rw[← hq];rfl
     have hc:=hrng 1 _ i33
     have m0:0≤(j:Int):=by omega
     have m1:(j:Int)<(n2:Int):=by omega
     clear i33 hin hrng
     replace he:=Hy he
     replace hq:=Hy hq
     by_cases hq1:q≤300
     ·have t6:decide ((300:Int)<(q:Int))=false:=by simp;omega
      exact Xc137
     ·have t6:decide ((300:Int)<(q:Int))=true:=by simp;omega
      exact Xc145
    ·obtain rfl:n2=j:=by omega
     have t5:decide ((n2:Int)<(n2:Int))=false:=by simp
     have hs1:∀ e ∈ l,e.1.scr.length≤300:=fun e he=>hall.out e (by rw[List.take_of_length_le (by rw[hn1.out];omega)];exact he)
     have hs2:∀ e ∈ m,e.1.scr.length≤300:=fun e he=>hall2.out e (by rw[List.take_of_length_le (by rw[hn2.out];omega)];exact he)
     have hbv:b=decide (n1≤20∧n2≤20):=by
      cases b
      ·by_cases hc:n1≤20∧n2≤20
       ·have:=hsane.out.2 ⟨hs1,hs2,hc.1,hc.2⟩
        simp at this
       ·simp[hc]
      ·have:=(hsane.out.1 rfl).2.2
       simp[this]
     clear hs1 hs2
     by_cases w1:n1≤20
     ·have t6:decide ((n1:Int)≤20)=true:=by simp;omega
      by_cases w2:n2≤20
      ·have t7:decide ((n2:Int)≤20)=true:=by simp;omega
       obtain rfl:b=true:=by rw[hbv];simp[w1,w2]
       clear hbv
       go_wp2
       go_ret
       exact⟨rfl,bW⟩
      ·have t7:decide ((n2:Int)≤20)=false:=by simp;omega
       obtain rfl:b=false:=by rw[hbv];simp[w2]
       clear hbv
       go_wp2
       go_ret
       exact⟨rfl,bW⟩
     ·have t6:decide ((n1:Int)≤20)=false:=by simp;omega
      obtain rfl:b=false:=by rw[hbv];simp[w1]
      clear hbv
      go_wp2
      go_ret
      exact⟨rfl,bW⟩
theorem AB:(prog.info? 91).map (fun i=>(i.size,i.bytes))=some (35,72):=by kernel_rfl
theorem AC:(prog.info? 91).map (fun i=>(i.zero.map (·.cells.size)))=some (some 35):=by kernel_rfl
theorem xM:(prog.info? 94).map (fun i=>(i.size,i.bytes))=some (2,32):=by kernel_rfl
theorem xN:(prog.info? 94).map (fun i=>(i.zero.map (·.cells.size)))=some (some 2):=by kernel_rfl
theorem Qw (ver lock : Nat) (hv : ver < 4294967296) (hlk : lock < 4294967296) (l : List (lI × Sl)) (m : List (fA × Sl)) (A1 A2 : Option Addr) (n1 n2 c1 c2 : Nat) (hn1 : l.length = n1) (hn2 : m.length = n2) (hm1 : n1 ≤ 1000) (hm2 : n2 ≤ 1000) (w : World) (h1 : fB w A1 l) (h2 : dH w A2 m) :
    Calls prog 13 #[.agg #[.int .u32 (ver : Int), .slice A1 n1 c1, .slice A2 n2 c2, .int .u32 (lock : Int)]] w fun e w' => ∃ (B1 B2 : Option Addr) (d1 d2 : Nat), e = .returned (.agg #[.int .u32 (ver : Int), .slice B1 n1 d1, .slice B2 n2 d2, .int .u32 (lock : Int)]) ∧ n1 ≤ d1 ∧ n2 ≤ d2 ∧ fB w' B1 l ∧ dH w' B2 m ∧ Below w.heap.size w w' := by
  obtain ⟨W, hW⟩ := Nm (((w.alloc (.cells #[.int .u32 (ver : Int), .slice A1 n1 c1, .slice A2 n2 c2, .int .u32 (lock : Int)] 32)).alloc (.cells #[.int .u32 0, .slice none 0 0, .slice none 0 0, .int .u32 0] 63)).alloc (.cells #[.int .u32 (ver : Int), .slice none 0 0, .slice none 0 0, .int .u32 (lock : Int)] 63))
  obtain ⟨H, hH⟩ := Nm (w.heap.size)
  have e : ∀ (v : World) (o : Obj), (v.alloc o).heap.size = v.heap.size + 1 := fun v o => by simp
  have sW : W.heap.size = H + 3 := by rw [hW, e, e, e, hH]
  have bW : Below H w W := by rw [hW, hH]; exact (((Below.refl _ _).alloc LR _).alloc zS _).alloc (by simp; omega) _
  have aW : Av W H 32 [.int .u32 (ver : Int), .slice A1 n1 c1, .slice A2 n2 c2, .int .u32 (lock : Int)] := by rw [hW, hH]; exact Av.alloc (heap_alloc2_old _ _ _) _
  have rW : Av W (H + 1) 63 [.int .u32 0, .slice none 0 0, .slice none 0 0, .int .u32 0] := by rw [hW, hH]; exact Av.alloc (heap_alloc2_new _ _ _) _
  have tW : Av W (H + 2) 63 [.int .u32 (ver : Int), .slice none 0 0, .slice none 0 0, .int .u32 (lock : Int)] := by
    have := heap_alloc_new ((w.alloc (.cells #[.int .u32 (ver : Int), .slice A1 n1 c1, .slice A2 n2 c2, .int .u32 (lock : Int)] 32)).alloc (.cells #[.int .u32 0, .slice none 0 0, .slice none 0 0, .int .u32 0] 63)) (.cells #[.int .u32 (ver : Int), .slice none 0 0, .slice none 0 0, .int .u32 (lock : Int)] 63)
    rw [← hW, e, e, ← hH] at this
    exact this
  have v0 : 0 ≤ (ver : Int) := by omega
  have d0 : 0 < 35 := by decide
  have d1 : 35 ≤ 1000000 := by decide
  have v1 : 0 ≤ (lock : Int) := by omega
  replace hn1 := Hy hn1
  replace hn2 := Hy hn2
  replace sW := Hy sW
  replace hW := Hy hW
  replace hH := Hy hH
  go_enter func13, ntmps13
  go_upto_region 2 with fail
  rw [← hW.out, ← hH.out]
  rw [show H + 1 + 1 = H + 2 from rfl]
  go_wp2
  go_loopw [4, 5] (fun i _ wr => ∃ (k : Nat) (v : Value), k ≤ n1 ∧ i = .int .i64 (k : Int) ∧ Av wr H 32 [.int .u32 (ver : Int), .slice A1 n1 c1, .slice A2 n2 c2, .int .u32 (lock : Int)] ∧ Av wr (H + 1) 63 [.int .u32 0, .slice none 0 0, .slice none 0 0, .int .u32 0] ∧ Av wr (H + 2) 63 [.int .u32 (ver : Int), v, .slice none 0 0, .int .u32 (lock : Int)] ∧ wr.ownsRow (H + 3) 91 35 v k (OL (l.take k)) ∧ Below H w wr) (fun i _ _ => n1 - (intOf i).toNat)
  case atStart => exact ⟨0, _, by omega, rfl, aW, rW, tW, World.ownsRow_nil _ _ _ _, bW⟩
  case round =>
    clear aW rW tW bW
    obtain ⟨k, v, hk, rfl, aw, rw', tw, ow, bw⟩ := hrel
    have bw0 : Below w.heap.size w wr := by rw [← hH.out]; exact bw
    obtain ⟨Bv, dv, rfl, hdv, _⟩ := cM ow
    have q1 := aw.cell 1 _ rfl
    have q2 := tw.cell 1 _ rfl
    by_cases hlt : k < n1
    · have t4 : decide ((k : Int) < (n1 : Int)) = true := by simp; omega
      obtain ⟨x, hx⟩ : ∃ x, l[k]? = some x := ⟨_, List.getElem?_eq_getElem (by rw [hn1.out]; exact hlt)⟩
      obtain ⟨b1, off, rfl⟩ := h1.adr (by rw [hn1.out]; omega)
      obtain ⟨hrng, hin⟩ := (h1.b bw0).nth k x hx
      obtain ⟨i32, i33, i34⟩ := uU hin
      have eB := iR hin
      have hone := nV (tY x)
      have hp32 : x.1.prev.length = 32 := hin.1.1
      obtain ⟨sq, hsq⟩ := Nm (BE x.1.scr.length x.2)
      obtain ⟨ix, hix⟩ := Nm ((x.1.idx : Int))
      obtain ⟨qx, hqx⟩ := Nm ((x.1.seq : Int))
      obtain ⟨nn, hnn⟩ := Nm (x.1.scr.length)
      obtain ⟨cs, cK⟩ := Nm (sB x)
      have hcs2 : cs = x.1.prev.map bv ++ [.int .u32 ix, .slice x.2.1 nn x.2.2, .int .u32 qx] := by rw [cK, sB, hix, hqx, hnn]
      rw [← cK] at hrng eB hone i32 i33 i34
      rw [← hix] at i32
      rw [← hqx] at i34
      rw [← hnn] at i33
      have m0 : 0 ≤ (k : Int) := by omega
      have m1 : (k : Int) < (n1 : Int) := by omega
      clear hsq hin hix hqx hnn sq
      replace i32 := Hy i32
      replace i33 := Hy i33
      replace i34 := Hy i34
      replace hx := Hy hx
      replace cK := Hy cK
      replace hcs2 := Hy hcs2
      replace hp32 := Hy hp32
      go_upto_region 6 with (first
        | ((with_reducible refine fO 97 (b := b1) (off := off + k * 35) cs hrng ?_ _ underlying97 ?_ ?_ ?_); rfl; rfl; (rw [eB]; kernel_rfl))
        | ((with_reducible refine bF 97 ((Below.refl wr.heap.size wr).alloc LR _) (heap_alloc_new _ _) LR cs ?_ ?_ 35 eB ?_ ?_ hone ?_); rfl; rfl; kernel_rfl; rfl
           intro w3 a3 b3 k3 z3; clear k3; replace z3 := Hy z3))
      have tw3 := tw.b b3
      have ow3 := aJ ow b3
      have hHs : H ≤ wr.heap.size := by have := bw.size; have := hH.out; omega
      have bw3 := bw.trans (b3.mono hHs)
      have r2 := tw3.cell 1 _ rfl
      have f2 := frozen_of_row _ _ 1 _ _ tw3
      have y32 := a3.cell 32 _ i32.out
      have y33 := a3.cell 33 _ i33.out
      have y34 := a3.cell 34 _ i34.out
      have hr0 : w3.rangeAt wr.heap.size 0 (x.1.prev.map bv) := by
        rw [hcs2.out] at a3
        exact Av.rangeAt (pre := []) a3 0 rfl
      have aw3 := aw.b b3
      have rw3 := rw'.b b3
      have hbb : H + 3 ≤ w3.heap.size := by have := bw3.size; have := (World.ownsRow.lt ow3); have h3 := tw3.lt; omega
      replace a3 := Hy a3
      replace hrng := trivial
      replace q1 := trivial
      replace q2 := trivial
      replace tw := Hy tw
      replace tw3 := Hy tw3
      replace ow := trivial
      replace eB := Hy eB
      replace hone := Hy hone
      have oa := ow3.alloc (.cells cs.toArray 91)
      have ba := (Below.refl w3.heap.size w3).alloc LR (.cells cs.toArray 91)
      have ta := tw3.out.b ba
      replace ow3 := Hy ow3
      replace oa := Hy oa
      replace ta := Hy ta
      go_wp2_with (first
        | ((with_reducible refine fO 35 (b := wr.heap.size) (off := 0) (x.1.prev.map bv) hr0 ?_ _ SS ?_ ?_ ?_); rfl; rfl; (rw [List.length_map, hp32.out]; kernel_rfl))
        | ((with_reducible refine vO 91 (Or.inl rfl) x.1.prev hp32.out ix qx x.2.1 nn x.2.2 ?_ ?_ ?_ ?_ ?_); rfl; rfl; rfl; rfl)
        | ((with_reducible refine dQ underlying60 AB AC d0 d1 cs eB.out ?_ ?_); (rw [hcs2.out]; rfl))
        | (at_builtin; refine bT underlying60 AB AC DC oa.out (by simp; omega) cs 1 1 (Av.rd (t := 91) (heap_alloc_new _ _)) (by rw [eB.out]) (List.all_eq_true.1 hone.out) OM OM rfl (.tmp 25) (.tmp 35) rfl rfl rfl ?_; intro v9 w9 o9 gr9 ob9; obtain ⟨B9, d9, rfl, _, _⟩ := cM o9; have z1 := ta.out.same (gr9.block _ ta.out.lt (fun e => by have := (World.ownsRow.lt oa.out _ e.symm).1; omega)); have zc := z1.cell 1 _ rfl; have zf := frozen_of_row _ _ 1 _ _ z1))
      have f5 := Fr.setCell w9 ⟨H + 2, 1, none⟩ (.slice B9 (k + 1) d9)
      have grw := Fr.of_grown gr9
      have rowlt := fun z hz => World.ownsRow.lt oa.out z hz
      have o9lt := fun z hz => World.ownsRow.lt o9 z hz
      refine ⟨⟨k + 1, .slice B9 (k + 1) d9, by omega, by go_num, ?_, ?_, z1.set 1 _, ?_, ?_⟩, ?_⟩
      · exact f5.av (grw.av (aw3.b ba) (fun e => by have := (rowlt H e.symm).1; omega)) (by simp only; omega)
      · exact f5.av (grw.av (rw3.b ba) (fun e => by have := (rowlt (H + 1) e.symm).1; omega)) (by simp only; omega)
      · rw [List.take_add_one, hx.out, OL, List.flatMap_append]
        simp only [Option.toList_some, List.flatMap_cons, List.flatMap_nil, List.append_nil]
        rw [← cK.out]
        exact bU o9 f5 fun z hz e => by have := (o9lt z hz).1; simp only at e; omega
      · exact ((bw3.trans (ba.mono (by have := b3.size; omega))).trans (grw.b (fun z hz => by have := (rowlt z hz.symm).1; omega) (by have := tw3.out.lt; simp; omega))).setCell (by simp only; omega) _
      · simp [intOf]; omega
    · obtain rfl : n1 = k := by omega
      have t4 : decide ((n1 : Int) < (n1 : Int)) = false := by simp
      have ol : wr.ownsRow (H + 3) 91 35 (.slice Bv n1 dv) n1 (OL l) := by
        rw [List.take_of_length_le (by rw [hn1.out]; omega)] at ow
        exact ow
      clear ow
      have ol' := Hy ol
      have tw' := Hy tw
      have aw' := Hy aw
      have rw2 := Hy rw'
      have bw' := Hy bw
      clear ol tw aw rw' bw q2
      go_wp2
      clear q1 bw0
      go_loopw [6] (fun i wr => ∃ (j : Nat) (v : Value), j ≤ n2 ∧ i = .int .i64 (j : Int) ∧ Av wr H 32 [.int .u32 (ver : Int), .slice A1 n1 c1, .slice A2 n2 c2, .int .u32 (lock : Int)] ∧ Av wr (H + 1) 63 [.int .u32 0, .slice none 0 0, .slice none 0 0, .int .u32 0] ∧ Av wr (H + 2) 63 [.int .u32 (ver : Int), .slice Bv n1 dv, v, .int .u32 (lock : Int)] ∧ wr.ownsRow (H + 3) 91 35 (.slice Bv n1 dv) n1 (OL l) ∧ wr.ownsRow (H + 3) 94 2 v j (PO (m.take j)) ∧ (∀ z, (Value.slice Bv n1 dv).ownBlock = some z → v.ownBlock ≠ some z) ∧ Below H w wr) (fun i _ => n2 - (intOf i).toNat)
      case atStart => exact ⟨0, _, by omega, rfl, aw'.out, rw2.out, tw'.out, ol'.out, World.ownsRow_nil _ _ _ _, fun z _ => by simp [Value.ownBlock], bw'.out⟩
      case round =>
        clear ol' tw' aw' rw2 bw'
        obtain ⟨j, v, hj, rfl, aw, rw', tw, ol, ow, hap, bw⟩ := hrel
        have bw0 : Below w.heap.size w wr := by rw [← hH.out]; exact bw
        obtain ⟨Ev, ev, rfl, hev, _⟩ := cM ow
        have q1 := aw.cell 2 _ rfl
        by_cases hlt2 : j < n2
        · have t5 : decide ((j : Int) < (n2 : Int)) = true := by simp; omega
          obtain ⟨x, hx⟩ : ∃ x, m[j]? = some x := ⟨_, List.getElem?_eq_getElem (by rw [hn2.out]; exact hlt2)⟩
          obtain ⟨b1, off, rfl⟩ := h2.adr (by rw [hn2.out]; omega)
          obtain ⟨hrng, hin⟩ := (h2.b bw0).nth j x hx
          have eB := iS x
          have hone := nV (uA x)
          obtain ⟨vx, hvx⟩ := Nm ((x.1.val : Int))
          obtain ⟨nn, hnn⟩ := Nm (x.1.scr.length)
          obtain ⟨cs, cK⟩ := Nm (kB x)
          have hcs2 : cs = [.int .u64 vx, .slice x.2.1 nn x.2.2] := by rw [cK, kB, hvx, hnn]
          have i0 : cs[0]? = some (.int .u64 vx) := by rw [hcs2]; rfl
          have i1 : cs[1]? = some (.slice x.2.1 nn x.2.2) := by rw [hcs2]; rfl
          rw [← cK] at hrng eB hone
          have g0 := hrng 0 _ i0
          have g1 := hrng 1 _ i1
          have hl0 := World.block_lt_of_cell? wr _ g0
          have m0 : 0 ≤ (j : Int) := by omega
          have m1 : (j : Int) < (n2 : Int) := by omega
          have G0 := Hy (fun w' (hE : cI wr.drew w') => (hE.drew.cell (p := ⟨b1, off + j * 2, none⟩) hl0).trans g0)
          have G1 := Hy (fun w' (hE : cI wr.drew w') => (hE.drew.cell (p := ⟨b1, off + j * 2 + 1, none⟩) hl0).trans g1)
          clear hin hvx hnn i0 i1 g0 g1 hrng
          replace hx := Hy hx
          replace cK := Hy cK
          replace hcs2 := Hy hcs2
          go_wp2_with fail
          refine bL 16 [(15, Ee cs)] cI KR KR KR KR KR cI.refl cI.trans (by intro p hp v w w' hR; simp only [List.mem_singleton] at hp; subst hp; exact Ee.mono hR) ?_
          refine ZP (fun w _ => by go_simp; first | done | rfl) ?_
          refine ZP (c := .slice Ev j ev) (fun w hw => by have := (tw.b hw.drew).cell 2 _ rfl; go_simp; first | done | rfl) ?_
          refine ZP (fun w _ => by go_simp; first | done | rfl) ?_
          refine ZP (c := .slice (some ⟨b1, off, none⟩) n2 c2) (fun w hw => by have := (aw.b hw.drew).cell 2 _ rfl; go_simp; first | done | rfl) ?_
          refine ZM ?_
          refine ZP (fun w _ => by go_simp; first | done | rfl) ?_
          refine ZP (fun w _ => by go_simp; first | done | rfl) ?_
          refine ZP (c := .int .u64 vx) (fun w hw => by have := G0.out w hw; go_simp; first | done | rfl) ?_
          refine ZP (fun w _ => by go_simp; first | done | rfl) ?_
          refine ZP (c := .slice (some ⟨b1, off, none⟩) n2 c2) (fun w hw => by have := (aw.b hw.drew).cell 2 _ rfl; go_simp; first | done | rfl) ?_
          refine ZM ?_
          refine ZP (fun w _ => by go_simp; first | done | rfl) ?_
          refine ZP (fun w _ => by go_simp; first | done | rfl) ?_
          refine ZP (c := .slice x.2.1 nn x.2.2) (fun w hw => by have := G1.out w hw; go_simp; first | done | rfl) ?_
          refine ZP (c := .agg #[.int .u64 vx, .slice x.2.1 nn x.2.2]) (fun w _ => by go_simp; first | done | rfl) ?_
          refine cO _ rfl (fun w hw => aM rfl (bI rfl ?_)) ?_
          · rw [lD underlying61 xM xN DC DC w cs eB _ rfl (by rw [jG, hcs2.out]; rfl)]
            exact ⟨(Below.refl _ _).alloc LR _, _, rfl, Av.rd (t := 94) (heap_alloc_new _ _)⟩
          refine bO fun w2 hw2 => aC rfl rfl fun v' hv' => aF ?_
          simp only [List.set_cons_succ, List.set_cons_zero, List.drop_succ_cons, List.drop_zero]
          obtain ⟨D, rfl, hrb⟩ := hv'
          have tw2 := tw.b hw2.drew
          have aw2 := aw.b hw2.drew
          have rw2 := rw'.b hw2.drew
          have ol2 := aJ ol hw2.drew
          have ow2 := aJ ow hw2.drew
          have hHs : H ≤ wr.heap.size := by have := bw.size; have := hH.out; omega
          have bw2 := bw.trans (hw2.drew.mono hHs)
          have hbb : H + 3 ≤ w2.heap.size := by have := tw2.lt; omega
          replace ow2 := Hy ow2
          replace tw2 := Hy tw2
          replace hone := Hy hone
          replace eB := Hy eB
          go_wp2_with (at_builtin; refine bT underlying61 xM xN DC ow2.out hbb cs 1 1 hrb (by rw [eB.out]) (List.all_eq_true.1 hone.out) OM OM rfl (.tmp 46) (.tmp 60) rfl rfl rfl ?_; intro v9 w9 o9 gr9 ob9; obtain ⟨B9, d9, rfl, _, _⟩ := cM o9; have z1 := tw2.out.same (gr9.block _ tw2.out.lt (fun e => by have := (World.ownsRow.lt ow2.out _ e.symm).1; omega)); have zc := z1.cell 2 _ rfl; have zf := frozen_of_row _ _ 2 _ _ z1)
          have f5 := Fr.setCell w9 ⟨H + 2, 2, none⟩ (.slice B9 (j + 1) d9)
          have grw := Fr.of_grown gr9
          have rowlt := fun z hz => World.ownsRow.lt ow2.out z hz
          have row1lt := fun z hz => World.ownsRow.lt ol2 z hz
          have o9lt := fun z hz => World.ownsRow.lt o9 z hz
          refine ⟨⟨j + 1, .slice B9 (j + 1) d9, by omega, by go_num, ?_, ?_, z1.set 2 _, ?_, ?_, ?_, ?_⟩, ?_⟩
          · exact f5.av (grw.av aw2 (fun e => by have := (rowlt H e.symm).1; omega)) (by simp only; omega)
          · exact f5.av (grw.av rw2 (fun e => by have := (rowlt (H + 1) e.symm).1; omega)) (by simp only; omega)
          · exact bU (bU ol2 grw fun z hz e => hap z hz e.symm) f5 fun z hz e => by have := (row1lt z hz).1; simp only at e; omega
          · rw [List.take_add_one, hx.out, PO, List.flatMap_append]
            simp only [Option.toList_some, List.flatMap_cons, List.flatMap_nil, List.append_nil]
            rw [← cK.out]
            exact bU o9 f5 fun z hz e => by have := (o9lt z hz).1; simp only at e; omega
          · intro z hz e
            rcases ob9 with h | h
            · exact hap z hz (h.symm.trans e)
            · rw [h] at e; injection e with e
              have := (row1lt z hz).2
              omega
          · exact (bw2.trans (grw.b (fun z hz => by have := (rowlt z hz.symm).1; omega) OM)).setCell (by simp only; omega) _
          · simp [intOf]; omega
        · obtain rfl : n2 = j := by omega
          have t5 : decide ((n2 : Int) < (n2 : Int)) = false := by simp
          have ol2 : wr.ownsRow (H + 3) 94 2 (.slice Ev n2 ev) n2 (PO m) := by
            rw [List.take_of_length_le (by rw [hn2.out]; omega)] at ow
            exact ow
          clear ow
          go_upto_region 11 with fail
          go_wp2_with (first
            | ((with_reducible refine LH tw 4 Tg ?_ ?_);rfl)
            | ((with_reducible refine dR 63 bw rw' (Nat.le_add_right _ _) [.int .u32 (ver : Int), .slice Bv n1 dv, .slice Ev n2 ev, .int .u32 (lock : Int)] ?_ ?_ 4 ?_ ?_ ?_ ?_ ?_); rfl; rfl; rfl; kernel_rfl; rfl; rfl
               intro w4 a4 b4 k4 z4))
          refine bodyPost_ret (v := .agg #[.int .u32 (ver : Int), .slice Bv n1 dv, .slice Ev n2 ev, .int .u32 (lock : Int)]) (results_cell_row rfl _ _ (H + 1) _ _ (0, 0) _ bM a4 Tg rfl KR) rfl ?_
          have f4 : Fr (fun z => z = H + 1) wr w4 := ⟨b4.os.trans bw.os.symm, b4.tape.trans bw.tape.symm, b4.output.trans bw.output.symm, by omega, fun z _ hz => k4 z hz⟩
          have k1 := bU ol f4 fun z hz e => by have := (World.ownsRow.lt ol z hz).1; omega
          have k2 := bU ol2 f4 fun z hz e => by have := (World.ownsRow.lt ol2 z hz).1; omega
          have b40 : Below w.heap.size w w4 := by rw [← hH.out]; exact b4
          exact ⟨Bv, Ev, dv, ev, rfl, hdv, hev, ⟨fV k1, fun x hx => (h1.2 x hx).b b40⟩, ⟨fV k2, fun x hx => (h2.2 x hx).b b40⟩, b40⟩
end Go.Proofs.YtobjgebojhjhnaaGreatDoor
