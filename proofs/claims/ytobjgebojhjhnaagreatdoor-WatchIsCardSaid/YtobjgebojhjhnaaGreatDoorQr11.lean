import Derived.Test.YtobjgebojhjhnaaGreatDoorQr10
import Derived.StillTailTactics
import Derived.Test.YtobjgebojhjhnaaGreatDoorQr17
import Derived.Test.YtobjgebojhjhnaaGreatDoorRelO
namespace Go.Proofs.YtobjgebojhjhnaaGreatDoor
set_option maxRecDepth 100000
set_option maxHeartbeats 16000000
open Go.RowKit Tryz
theorem Qb (a b c d a' b' c' d':Nat) (w:World):(Op.equalIn 10000 158 (.agg (fS a b c d).toArray) (.agg (fS a' b' c' d').toArray)).run prog w= .ok (decide (a=a'∧b=b'∧c=c'∧d=d')) w:=by
 have h:=oI w 9998 158 92 4 .u64 SV underlying92 wK [(a:Int),b,c,d] [(a':Int),b',c',d'] rfl rfl
 refine h.trans ?_
 congr 1
 rw[Bool.eq_iff_iff]
 simp
 omega
theorem Rr (a b c d a' b' c' d':Nat) (w:World):(binOp .eql 158 (.agg (fS a b c d).toArray) (.agg (fS a' b' c' d').toArray)).run prog w= .ok (.bool (decide (a=a'∧b=b'∧c=c'∧d=d'))) w:=by
 rw[run_eql_struct,Qb]
 rfl
theorem Qc (a b c d a' b' c' d':Nat) (x y:Operand) (w:World):(do eqGuard .eql 158 x y (.agg (fS a b c d).toArray) (.agg (fS a' b' c' d').toArray);binOp .eql 158 (.agg (fS a b c d).toArray) (.agg (fS a' b' c' d').toArray):Sem Value).run prog w= .ok (.bool (decide (a=a'∧b=b'∧c=c'∧d=d'))) w:=by
 rw[Sem.run_bind,show (eqGuard .eql 158 x y (.agg (fS a b c d).toArray) (.agg (fS a' b' c' d').toArray)).run prog w= .ok () w by go_simp,Result.andThen_ok,Rr]
theorem Jc (n:Nat) (x y:Operand) (w:World) (hn:n<115792089237316195423570985008687907853269984665640564039457584007913129639936):(do eqGuard .eql 158 x y (.agg (uc n).toArray) (.agg (fS 0 0 0 0).toArray);binOp .eql 158 (.agg (uc n).toArray) (.agg (fS 0 0 0 0).toArray):Sem Value).run prog w= .ok (.bool (decide (n=0))) w:=by
 unfold uc
 rw[Qc]
 congr 2
 rw[decide_eq_decide]
 constructor
 ·rintro⟨h0,h1,h2,h3⟩
  rw[vU hn,h0,h1,h2,h3]
 ·rintro rfl
  exact uL OM
theorem Jd (b k:Nat):b &&& 2 ^ k=b / 2 ^ k % 2*2 ^ k:=by
 apply Nat.eq_of_testBit_eq
 intro i
 rw[Nat.testBit_and,Nat.testBit_two_pow]
 have e:=Nat.testBit_eq_decide_div_mod_eq (x:=b) (i:=k)
 rcases Nat.mod_two_eq_zero_or_one (b / 2 ^ k) with h|h
 ·rw[h,Nat.zero_mul,Nat.zero_testBit]
  rw[h] at e
  by_cases hk:k=i
  ·subst hk;simp[e]
  ·simp[hk]
 ·rw[h,Nat.one_mul,Nat.testBit_two_pow]
  rw[h] at e
  by_cases hk:k=i
  ·subst hk;simp[e]
  ·simp[hk]
def sM (T:Nat) (lost:Bool) (s:Nat):Value:=if T=0∨lost=true∨s=1 then .tuple #[.agg (uc 0).toArray,.int .i64 7] else .tuple #[.agg (uc T).toArray,.int .i64 0]
theorem Mc:(2:Nat) ^ 256=115792089237316195423570985008687907853269984665640564039457584007913129639936:=by decide
theorem Ov (b:Nat) (h2:b / 16777216≤3):sM (b % 8388608 / 2 ^ (8*(3 - b / 16777216)) % 2 ^ 256) false (b / 8388608 % 2)=wL b:=by
 have hm:b % 8388608 / 2 ^ (8*(3 - b / 16777216))<2 ^ 256:=Nat.lt_of_le_of_lt (Nat.div_le_self _ _) (Nat.lt_trans (Nat.mod_lt b (by decide:0<8388608)) DC)
 rw[Nat.mod_eq_of_lt hm]
 by_cases hz:b % 8388608=0
 ·rw[jT (by rw[lP,if_pos hz]),sM,if_pos (Or.inl (by rw[hz,Nat.zero_div]))]
 by_cases hs:b / 8388608 % 2=1
 ·rw[jT (by rw[lP,if_neg hz,if_pos hs]),sM,if_pos (Or.inr (Or.inr hs))]
 by_cases h3:b / 16777216<3
 ·by_cases h0:b % 8388608 / 2 ^ (8*(3 - b / 16777216))=0
  ·rw[jT (by rw[lP,if_neg hz,if_neg hs,if_pos h3,if_pos h0]),sM,if_pos (Or.inl h0)]
  ·rw[oJ (by rw[lP,if_neg hz,if_neg hs,if_pos h3,if_neg h0]),sM,if_neg (by simp[h0,hs])]
 ·have e3:b / 16777216=3:=by omega
  have hv:lP b=some (b % 8388608):=by
   rw[lP,if_neg hz,if_neg hs,if_neg h3,e3,Nat.sub_self,Nat.mul_zero,Nat.pow_zero,Nat.mul_one,if_neg OM]
  rw[oJ hv,e3,Nat.sub_self,Nat.mul_zero,Nat.pow_zero,Nat.div_one,sM,if_neg (by simp[hz,hs])]
theorem Ow (b:Nat) (h2:3<b / 16777216):sM (b % 8388608*2 ^ (8*(b / 16777216 - 3)) % 2 ^ 256) (decide (2 ^ 256≤b % 8388608*2 ^ (8*(b / 16777216 - 3)))) (b / 8388608 % 2)=wL b:=by
 have h3:¬ b / 16777216<3:=by omega
 by_cases hz:b % 8388608=0
 ·rw[jT (by rw[lP,if_pos hz]),sM,if_pos (Or.inl (by rw[hz,Nat.zero_mul,Nat.zero_mod]))]
 by_cases hs:b / 8388608 % 2=1
 ·rw[jT (by rw[lP,if_neg hz,if_pos hs]),sM,if_pos (Or.inr (Or.inr hs))]
 have hp:b % 8388608*2 ^ (8*(b / 16777216 - 3))≠0:=Nat.pos_iff_ne_zero.1 (Nat.mul_pos OM (Nat.two_pow_pos _))
 have hv:lP b=if 115792089237316195423570985008687907853269984665640564039457584007913129639936≤b % 8388608*2 ^ (8*(b / 16777216 - 3)) then none else some (b % 8388608*2 ^ (8*(b / 16777216 - 3))):=by
  rw[lP,if_neg hz,if_neg hs,if_neg h3]
 rw[Mc]
 generalize b % 8388608*2 ^ (8*(b / 16777216 - 3))=T at*
 by_cases hl:115792089237316195423570985008687907853269984665640564039457584007913129639936≤T
 ·rw[if_pos hl] at hv
  rw[jT hv,sM,if_pos (Or.inr (Or.inl (decide_eq_true hl)))]
 ·rw[if_neg hl] at hv
  rw[oJ hv,Nat.mod_eq_of_lt OM,sM,if_neg (by simp[hp,hs];omega)]
theorem FN (b:Nat) (hb:b<4294967296) (w:World):Calls prog 89 #[.int .u32 (b:Int)] w fun e w'=>e= .returned (wL b)∧Below w.heap.size w w':=by
 obtain⟨E,hE⟩:=Nm (b / 16777216)
 obtain⟨s,hs⟩:=Nm (b / 8388608 % 2)
 obtain⟨M,hM⟩:=Nm (b % 8388608)
 have hMl:M<8388608:=by omega
 have q1:(b:Int) / 16777216=(E:Int):=by omega
 refine Xm122 ?_;intro q3 q4 q5
 have hE255:E≤255:=by omega
 obtain⟨z,hz⟩:=Nm (3 - E:Int)
 obtain⟨y,hy⟩:=Nm (8*z)
 obtain⟨n,hn⟩:=Nm (8*(3 - E))
 have q6:IntKind.i64.wrap (3 - (E:Int))=z:=by rw[IntKind.wrap_i64];omega
 have q7:IntKind.i64.wrap (8*z)=y:=by rw[IntKind.wrap_i64];omega
 have HO:=Hy (Sg M OM)
 have HS0:=Rf M (Nat.lt_trans hMl DC) y n OM OM
 obtain⟨T0,hT0'⟩:∃ T,T=M / 2 ^ n % 2 ^ 256:=⟨_,rfl⟩
 rw[← hT0'] at HS0
 have hTl0:T0<2 ^ 256:=by rw[hT0'];exact Nat.mod_lt _ DC
 replace hT0':=Hy hT0'
 replace HS0:=Hy HS0
 obtain⟨W,hW⟩:=Nm (w.alloc (.cells #[.int .u64 0,.int .u64 0,.int .u64 0,.int .u64 0] 158))
 obtain⟨H,hH⟩:=Nm (w.heap.size)
 refine Xm90 ?_;intro bW
 have aR:Av W H 158 (fS 0 0 0 0):=by rw[hW,hH];exact heap_alloc_new _ _
 have hHw:Hid (w.heap.size≤H):=Hy (by rw[hH];exact Nat.le_refl _)
 obtain⟨Z,hZ⟩:=Nm (wL b)
 rw[← hZ]
 replace hZ:=Hy hZ
 replace hW:=Hy hW
 replace hH:=Hy hH
 replace hz:=Hy hz
 replace hy:=Hy hy
 replace hn:=Hy hn
 have hsb:=Hy (show bits .and .u32 (b:Int) 8388608=((s*8388608:Nat):Int) by
  have:=(bits_nat .u32 32 DC wraps_u32 b 8388608 OM OM).1
  rw[show b &&& 8388608=s*8388608 by rw[hs];exact Jd b 23] at this
  simpa using this)
 replace hs:=Hy hs
 replace hM:=Hy hM
 replace hE:=Hy hE
 go_enter func89,ntmps89
 go_upto_region 1 with fail
 rw[← hW.out,← hH.out]
 go_upto_region 3 with (first
  |(go_at_call 90;refine(HO.out _).mono ?_;rintro e w1 ⟨rfl,b1⟩)
  |((with_reducible refine SN (uc M) 4 ?_ ?_ ?_);rfl;rfl;intro w2 a5 b2 k2 z2;clear k2 z2))
 have b12:=b1.trans (b2.mono b1.size)
 have bw2:=bW.trans (b12.mono bW.size)
 have aR2:=aR.b b12
 clear b1 b2 b12 bW aR
 go_upto_region 4 with (first
  |((with_reducible refine LF a5 4 (jK M) SV ?_ ?_);rfl)
  |(go_at_call 123;refine(HS0.out _).mono ?_;rintro e w3 ⟨rfl,b3⟩)
  |((with_reducible refine SN (uc T0) 4 ?_ ?_ ?_);rfl;rfl;intro w4 a6 b4 k2 z2;clear k2 z2))
 have b34:=b3.trans (b4.mono b3.size)
 have bw4:=bw2.trans (b34.mono bw2.size)
 have aR4:=aR2.b b34
 have hH3:H<w3.heap.size:=Nat.lt_of_lt_of_le aR2.lt b3.size
 have a54:=a5.b b34
 have hw34:w.heap.size≤w3.heap.size:=(bw2.trans (b3.mono bw2.size)).size
 clear b3 b4 b34 bw2 aR2 a5
 by_cases h2:3<E
 case' pos=>
  have q8:decide ((3:Int)<(E:Int))=true:=by simp;omega
  obtain⟨D,hD⟩:=Nm (E - 3)
  obtain⟨K,hK⟩:=Nm (8*D)
  have q9:IntKind.i64.wrap ((E:Int) - 3)=(D:Int):=by rw[IntKind.wrap_i64];omega
  have qa:IntKind.i64.wrap (8*(D:Int))=(K:Int):=by rw[IntKind.wrap_i64];omega
  have HS:=PW M (Nat.lt_trans hMl DC) (K:Int) K OM OM
  have hZ:=hZ.out
  rw[← Ow b (by have:=hE.out;omega),← hE.out,← hM.out,← hs.out,← hD,← hK] at hZ
  have hTl:M*2 ^ K % 2 ^ 256<2 ^ 256:=Nat.mod_lt _ DC
  obtain⟨T,hT⟩:=Nm (M*2 ^ K % 2 ^ 256)
  obtain⟨o,ho⟩:=Nm (decide (2 ^ 256≤M*2 ^ K))
  rw[← hT] at HS hTl hZ
  rw[← ho] at HS hZ
  have HZ:=fun x y w=>Jc T x y w hTl
  replace hZ:=Hy hZ
  replace HS:=Hy HS
  replace hT:=Hy hT
  replace ho:=Hy ho
  replace hD:=Hy hD
  replace hK:=Hy hK
  go_upto_region 6 with fail
  go_upto_region 7 with (first
   |((with_reducible refine LF a54 4 (jK M) SV ?_ ?_);rfl)
   |(go_at_call 124;refine(HS.out _).mono ?_;rintro e w5 ⟨rfl,b5⟩)
   |((with_reducible refine SF (bw4.trans (b5.mono bw4.size)) (a6.b b5) hw34 (uc T) 4 ?_ ?_ ?_);rfl;rfl;intro w7 a7 b7 k7 z7))
  have aR7:Av w7 H 158 (fS 0 0 0 0):=(aR4.b b5).same (k7 H (Nat.ne_of_lt hH3))
  replace bw4:=b7
  replace a6:=a7
  replace aR4:=aR7
  clear b5 b7 a7 aR7 a54
  cases o
 case' neg=>
  have q8:decide ((3:Int)<(E:Int))=false:=by simp;omega
  have hZ:=hZ.out
  rw[← Ov b (by have:=hE.out;omega),← hE.out,← hM.out,← hs.out,← hn.out,← hT0'.out] at hZ
  have HZ:=fun x y w=>Jc T0 x y w hTl0
  obtain⟨T,hT⟩:=Nm (T0)
  rw[← hT] at hZ HZ a6
  replace hZ:=Hy hZ
  clear a54
  go_upto_region 7 with fail
  rw[← hT]
  replace hT:=Hy hT
 all_goals
  have hZZ:=HZ
  clear HZ
  by_cases hT0:T=0
  case' pos=>
   have hv:Z= .tuple #[.agg (uc 0).toArray,.int .i64 7]:=by rw[hZ.out,sM,if_pos (Or.inl hT0)]
   rw[decide_eq_true hT0] at hZZ
   replace hT0:=Hy hT0
  case' neg=>
   rw[decide_eq_false hT0] at hZZ
   first
    |have hv:Z= .tuple #[.agg (uc 0).toArray,.int .i64 7]:=by rw[hZ.out,sM,if_pos (Or.inr (Or.inl rfl))]
    |by_cases hs1:s=1
     rotate_left
     ·have hv:Z= .tuple #[.agg (uc T).toArray,.int .i64 0]:=by rw[hZ.out,sM,if_neg (by simp[hT0,hs1])]
      have hb1:bits .and .u32 (b:Int) 8388608=0:=by rw[hsb.out,show s=0 by have:=hs.out;omega];rfl
      replace hv:=Hy hv
      replace hZZ:=Hy hZZ
      clear hT0 hs1
      go_wp2_with (first
       |((with_reducible refine LF a6 4 (jK T) SV ?_ ?_);rfl)
       |((with_reducible refine dF ?_ ?_ ?_ (hZZ.out _ _ _) ?_);rfl;rfl;rfl)
       |((with_reducible refine SF bw4 aR4 hHw.out (uc T) 4 ?_ ?_ ?_);rfl;rfl;intro w9 a9 b9 k9 z9;clear k9 z9))
      refine bodyPost_ret ((aK (C:=uc T) bM bM a9 _ SV rfl 4 rfl KR).trans bM) bM ⟨by rw[hv.out];rfl,b9⟩
     have hv:Z= .tuple #[.agg (uc 0).toArray,.int .i64 7]:=by rw[hZ.out,sM,if_pos (Or.inr (Or.inr hs1))]
     have hb1:bits .and .u32 (b:Int) 8388608=8388608:=by rw[hsb.out,hs1];rfl
     replace hs1:=Hy hs1
  all_goals
   replace hZZ:=Hy hZZ
   replace hv:=Hy hv
   go_wp2_with (first
    |((with_reducible refine LF a6 4 (jK T) SV ?_ ?_);rfl)
    |((with_reducible refine dF ?_ ?_ ?_ (hZZ.out _ _ _) ?_);rfl;rfl;rfl)
    |((with_reducible refine SF bw4 aR4 hHw.out (fS 0 0 0 0) 4 ?_ ?_ ?_);rfl;rfl;intro w9 a9 b9 k9 z9;clear k9 z9))
   refine bodyPost_ret ((aK (C:=fS 0 0 0 0) bM bM a9 _ SV rfl 4 rfl KR).trans bM) bM ⟨by rw[hv.out];rfl,b9⟩
structure FO (w:World) (H g7 g8 g9:Nat) (y x q r:List Value):Prop where
 v1:Av w (H+1) 158 y
 v2:Av w (H+2) 158 (uc 0)
 v3:Av w (H+3) 158 (uc 0)
 v7:Av w g7 202 x
 v8:Av w g8 202 q
 v9:Av w g9 158 r
theorem FO.b {w w':World} {H g7 g8 g9:Nat} {y x q r:List Value} (h:FO w H g7 g8 g9 y x q r) (b:Below w.heap.size w w'):FO w' H g7 g8 g9 y x q r:=
 ⟨h.v1.b b,h.v2.b b,h.v3.b b,h.v7.b b,h.v8.b b,h.v9.b b⟩
theorem FO.fr {w w':World} {H g7 g8 g9 g:Nat} {y x q r:List Value} (h:FO w H g7 g8 g9 y x q r) (f:Fr (fun k=>k=g) w w') (hg:H+3<g7∧g7<g8∧g8<g9) (h9:g9<g):FO w' H g7 g8 g9 y x q r:=
 ⟨f.av h.v1 OM,f.av h.v2 OM,f.av h.v3 OM,f.av h.v7 OM,f.av h.v8 OM,f.av h.v9 OM⟩
theorem FO.fr8 {w w':World} {H g7 g8 g9:Nat} {y x q r q':List Value} (h:FO w H g7 g8 g9 y x q r) (f:Fr (fun k=>k=g8) w w') (hg:H+3<g7∧g7<g8∧g8<g9) (a:Av w' g8 202 q'):FO w' H g7 g8 g9 y x q' r:=
 ⟨f.av h.v1 OM,f.av h.v2 OM,f.av h.v3 OM,f.av h.v7 OM,a,f.av h.v9 OM⟩
theorem FO.fr9 {w w':World} {H g7 g8 g9:Nat} {y x q r r':List Value} (h:FO w H g7 g8 g9 y x q r) (f:∀ k,k≠g9→w'.heap[k]? =w.heap[k]?) (hg:H+3<g7∧g7<g8∧g8<g9) (a:Av w' g9 158 r'):FO w' H g7 g8 g9 y x q r':=
 ⟨h.v1.same (f _ OM),h.v2.same (f _ OM),h.v3.same (f _ OM),h.v7.same (f _ OM),h.v8.same (f _ OM),a⟩
theorem jH:(2:Nat) ^ 256=115792089237316195423570985008687907853269984665640564039457584007913129639936:=by decide
theorem Je (a b j:Nat) (hb:0<b) (hb2:b<2 ^ 256) (D V:Nat) (hD:D=2*mH a b (j+1) % 2 ^ 256) (hV:V=D+cS a j):
  V<2 ^ 256∧(2 ^ 256≤2*mH a b (j+1)∨b≤V→(2 ^ 256+V - b) % 2 ^ 256=mH a b j∧lV a b j=lV a b (j+1)+2 ^ j)∧(¬ (2 ^ 256≤2*mH a b (j+1)∨b≤V)→V=mH a b j∧lV a b j=lV a b (j+1)):=by
 obtain⟨W,hW,hlt,h1,h2⟩:=NF a b j hb (by rw[← jH];exact hb2)
 have hr:=Be a b (j+1) hb
 have hd:a / 2 ^ j % 2<2:=Nat.mod_lt _ OM
 unfold cS at hV
 generalize a / 2 ^ j % 2=d at*
 generalize mH a b (j+1)=r at*
 obtain⟨T,hT⟩:=Nm ((2:Nat) ^ 255)
 have h2T:(2:Nat) ^ 256=2*T:=by rw[hT,← Nat.pow_succ']
 rw[h2T] at hb2 hD ⊢
 clear hT h2T
 by_cases ho:2*T≤2*r
 ·have e:D=2*r - 2*T:=by rw[hD,Nat.mod_eq_sub_mod ho,Nat.mod_eq_of_lt OM]
  have hbW:b≤W:=by omega
  obtain⟨q1,q2⟩:=h2 hbW
  refine⟨by omega,fun _=>⟨?_,q2⟩,fun h=>absurd (Or.inl ho) h⟩
  rw[q1,Nat.mod_eq_of_lt OM];omega
 ·have e:D=2*r:=by rw[hD,Nat.mod_eq_of_lt OM]
  have eV:V=W:=by omega
  subst eV
  refine⟨by omega,fun h=>?_,fun h=>⟨(h1 OM).1.symm,(h1 OM).2⟩⟩
  have hbW:b≤V:=by omega
  obtain⟨q1,q2⟩:=h2 hbW
  refine⟨?_,q2⟩
  rw[q1,show 2*T+V - b=V - b+2*T by omega,Nat.add_mod_right,Nat.mod_eq_of_lt OM]
theorem FP (a b:Nat):decide ((0:Int)≤qE a b)=decide (b≤a):=by
 rw[decide_eq_decide]
 rcases Nat.lt_trichotomy a b with h|h|h
 ·rw[Ba h];omega
 ·subst h;rw[uM];omega
 ·rw[Bb h];omega
theorem Rs (a b : Nat) (ha : a < 2 ^ 256) (hb : b < 2 ^ 256) (hb0 : 0 < b) (w : World) :
    Calls prog 91 #[.agg (uc a).toArray, .agg (uc b).toArray] w fun e w' => e = .returned (.tuple #[.agg (uc (a / b)).toArray, .agg (uc (a % b)).toArray, .bool true]) ∧ Below w.heap.size w w' := by
  have z4 := vX
  obtain ⟨X, hX⟩ := Nm (jB a 256)
  obtain ⟨V, hV⟩ := Nm (uc a)
  obtain ⟨B, hB⟩ := Nm (uc b)
  obtain ⟨Q, hQ⟩ := Nm (uc (a / b))
  obtain ⟨R, hR⟩ := Nm (uc (a % b))
  rw [← hV, ← hB, ← hQ, ← hR]
  obtain ⟨W, hW⟩ := Nm ((((w.alloc (.cells V.toArray 158)).alloc (.cells B.toArray 158)).alloc (.cells #[.int .u64 0, .int .u64 0, .int .u64 0, .int .u64 0] 158)).alloc (.cells #[.int .u64 0, .int .u64 0, .int .u64 0, .int .u64 0] 158))
  obtain ⟨H, hH⟩ := Nm (w.heap.size)
  have e : ∀ (v : World) (o : Obj), (v.alloc o).heap.size = v.heap.size + 1 := fun v o => by simp
  have bW : Below w.heap.size w W := by rw [hW]; exact ((((Below.refl _ _).alloc LR _).alloc zS _).alloc (by simp; omega) _).alloc (by simp; omega) _
  have aU : Av W H 158 V := by rw [hW, hH]; exact Av.alloc (Av.alloc (heap_alloc2_old _ _ _) _) _
  have aB : Av W (H + 1) 158 B := by rw [hW, hH]; exact Av.alloc (Av.alloc (heap_alloc2_new _ _ _) _) _
  have aR : Av W (H + 2) 158 (uc 0) := by
    have q := heap_alloc_new ((w.alloc (.cells V.toArray 158)).alloc (.cells B.toArray 158)) (.cells #[.int .u64 0, .int .u64 0, .int .u64 0, .int .u64 0] 158)
    rw [e, e] at q
    rw [hW, hH, z4]; exact Av.alloc q _
  have aS : Av W (H + 3) 158 (uc 0) := by
    have q := heap_alloc_new (((w.alloc (.cells V.toArray 158)).alloc (.cells B.toArray 158)).alloc (.cells #[.int .u64 0, .int .u64 0, .int .u64 0, .int .u64 0] 158)) (.cells #[.int .u64 0, .int .u64 0, .int .u64 0, .int .u64 0] 158)
    rw [e, e, e] at q
    rw [hW, hH, z4]; exact q
  have hWs : W.heap.size = H + 4 := by rw [hW, hH, e, e, e, e]
  have lU : Hid (V.length = 4) := Hy (by rw [hV]; rfl)
  have lB : Hid (B.length = 4) := Hy (by rw [hB]; rfl)
  have lX : Hid (X.length = 256) := Hy (by rw [hX]; exact eG a 256)
  have oX : Hid (X.all (·.oneCell') = true) := Hy (by rw [hX]; exact List.all_eq_true.2 (pG a 256))
  have zsz := Hy Ot
  have HX := pI a
  rw [← hX, ← hV] at HX
  have hXc : ∀ k, k < 256 → X[k]? = some (.int .i64 (cS a k : Int)) := fun k h => by rw [hX, kQ a 256 k h, if_pos h]
  have hZZ : ∀ x y w, _ := fun x y w => Jc b x y w (by rw [← jH]; exact hb)
  rw [← hB] at hZZ
  rw [show decide (b = 0) = false by simp; omega] at hZZ
  replace HX := Hy HX
  replace hZZ := Hy hZZ
  obtain ⟨hs1, hs2⟩ := IV a b 256 ha
  clear e
  replace hX := Hy hX
  replace hV := Hy hV
  replace hB := Hy hB
  replace hQ := Hy hQ
  replace hR := Hy hR
  replace hW := Hy hW
  replace hH := Hy hH
  replace hXc := Hy hXc
  replace z4 := Hy z4
  replace hs1 := Hy hs1
  replace hs2 := Hy hs2
  go_enter func91, ntmps91
  go_upto_region 1 with fail
  rw [← hW.out, ← hH.out]
  go_upto_region 3 with (first
    | ((with_reducible refine LF aB 4 lB.out SV ?_ ?_);rfl)
    | ((with_reducible refine dF ?_ ?_ ?_ (hZZ.out _ _ _) ?_); rfl; rfl; rfl))
  go_upto_region 4 with (first
    | ((with_reducible refine LF aU 4 lU.out SV ?_ ?_);rfl)
    | (go_at_call 93; refine (HX.out _).mono ?_; rintro e w1 ⟨rfl, b1⟩)
    | ((with_reducible refine SN (X) 256 ?_ ?_ ?_ (hn:=lX.out) (ho:=zsz.out) (h1:=oX.out));rfl;rfl;intro w2 a7 b2 k2 z2;clear k2 z2))
  have b12 := b1.trans (b2.mono b1.size)
  obtain ⟨g7, hg7⟩ := Nm (w1.heap.size)
  rw [← hg7] at a7 ⊢
  have q7 : H + 3 < g7 := by have := b1.size; omega
  replace hg7 := Hy hg7
  have a1 := aB.b (b12)
  have a2 := aR.b (b12)
  have a3 := aS.b (b12)
  have c2 := bW.trans (b12.mono bW.size)
  clear b1 b2 b12 aU aB aR aS bW hWs HX
  obtain ⟨w3, hw3⟩ := Nm (w2.alloc (.cells zeroCells202 202))
  obtain ⟨g8, hg8⟩ := Nm (w2.heap.size)
  have b3 : Below w2.heap.size w2 w3 := by rw [hw3]; exact (Below.refl _ _).alloc LR _
  have a8 : Av w3 g8 202 (jB 0 256) := by rw [hw3, hg8, AX 0 256 (fun i _ => AZ 0 i (Nat.two_pow_pos i)), Re 0]; exact heap_alloc_new _ _
  have q8 : g7 < g8 := by rw [hg8]; exact a7.lt
  have q8' : g8 < w3.heap.size := a8.lt
  replace hw3 := Hy hw3
  replace hg8 := Hy hg8
  go_upto_region 5 with fail
  rw [← hw3.out, ← hg8.out]
  go_upto_region 7 with ((with_reducible refine SN (fS 0 0 0 0) 4 ?_ ?_ ?_);rfl;rfl;intro w4 a9 b4 k4 z5;clear k4 z5)
  obtain ⟨g9, hg9⟩ := Nm (w3.heap.size)
  rw [← hg9] at a9 q8' ⊢
  rw [← z4.out] at a9
  replace hg9 := Hy hg9
  have b34 := b3.trans (b4.mono b3.size)
  have D0 : FO w4 H g7 g8 g9 B X (jB (lV a b 256) 256) (uc (mH a b 256)) := ⟨a1.b b34, a2.b b34, a3.b b34, a7.b b34, by rw [hs1.out]; exact a8.b b4, by rw [hs2.out]; exact a9⟩
  have bw := c2.trans (b34.mono c2.size)
  have hHw : w.heap.size ≤ H := by rw [hH.out]; exact Nat.le_refl _
  clear b3 b4 b34 a1 a2 a3 a7 a8 a9 c2
  go_loopw [10] (fun iv wr => ∃ k : Nat, k ≤ 256 ∧ iv = .int .i64 ((k : Int) - 1) ∧ Below w.heap.size w wr ∧ FO wr H g7 g8 g9 B X (jB (lV a b k) 256) (uc (mH a b k))) (fun iv _ => (intOf iv + 1).toNat)
  case atStart => exact ⟨256, by omega, rfl, bw, D0⟩
  case round =>
    clear bw D0
    obtain ⟨k, hk, rfl, bw, D⟩ := hrel
    cases k with
    | zero =>
      have t1 : decide ((0 : Int) ≤ ((0 : Nat) : Int) - 1) = false := by simp
      have hl := Hy (eG (lV a b 0) 256)
      have HN0 := qK (lV a b 0)
      rw [Nat.mod_eq_of_lt (Nat.lt_of_le_of_lt (LY a b 0) ha)] at HN0
      obtain ⟨hq, hr⟩ := Oq a b
      rw [hq, hr] at D
      rw [hq] at HN0 hl
      have HN := Hy HN0
      clear HN0 hq hr
      obtain ⟨Y, hY⟩ := Nm (jB (a / b) 256)
      rw [← hY] at D HN hl
      rw [← hR.out] at D
      rw [← hQ.out] at HN
      have lQ : Q.length = 4 := by rw [hQ.out]; rfl
      have oQ : Q.all (·.oneCell') = true := by rw [hQ.out]; rfl
      have lR : Hid (R.length = 4) := Hy (by rw [hR.out]; rfl)
      have oR : Hid (R.all (·.oneCell') = true) := Hy (by rw [hR.out]; rfl)
      replace hY := Hy hY
      go_upto_region 16 with fail
      refine eH 4 [] [(3, fun w' => Av w' (H + 2) 158 Q)] (RS (H + 2) 158 Q) KR KR KR KR KR KR (fun w => RS.refl w) RS.trans (by intro p hp; cases hp) (by
        intro p hp w w' hR h
        simp only [List.mem_singleton] at hp
        subst hp
        exact hR.2.1 h) ?_
      refine rU (fun w => RS.refl w) rfl (cT (fun w => RS.refl w) rfl rfl rfl rfl (c := .agg Y.toArray) (fun w hw => aE (hw.1.av D.v8.drew OM) _ _ rfl rfl _ 256 hl.out Tu rfl KR) (by simp only [Zs]; rfl) (jC ?_))
      refine rU (fun w => RS.refl w) rfl (tA rfl rfl rfl rfl (c := .agg Q.toArray) 94 #[.agg Y.toArray] (fun w => by go_simp) (fun w hw => (HN.out w).mono (by rintro e w' ⟨rfl, hb⟩; exact ⟨rfl, RS.ofBelow hb⟩)) (by simp only [Zs]; rfl) (jC ?_))
      refine rU (fun w => RS.refl w) rfl (cT (fun w => RS.refl w) rfl rfl rfl rfl (c := .agg R.toArray) (fun w hw => aE (hw.1.av D.v9.drew OM) _ _ rfl rfl _ 4 lR.out SV rfl KR) (by simp only [Zs]; rfl) (jC ?_))
      refine pJ rfl rfl (fun w hw => fY (C := Q) D.v2.drew (by rw [lQ]; rfl) hw _ _ _ rfl rfl rfl 4 lQ KR oQ 3) ?_
      refine mG fun w5 hw5 hg => ?_
      simp only [List.drop_succ_cons, List.drop_zero]
      have a5 := hg (3, fun w' => Av w' (H + 2) 158 Q) (List.mem_singleton.2 rfl)
      have f5 := Fr.ofDrew hw5.1
      have b5 := bw.trans (f5.b (B := w.heap.size) (fun k hk => by omega) bw.size)
      have a6 := f5.av D.v3 OM
      have hH3 : w.heap.size ≤ H + 3 := by omega
      go_wp2_with ((with_reducible refine SF b5 a6 hH3 R 4 ?_ ?_ ?_ (hn:=lR.out) (h1:=oR.out));rfl;rfl;intro w6 a7 b6 k6 z6;clear z6)
      have a8 := a5.same (k6 (H + 2) OM)
      refine bodyPost_ret (qL rfl bM bM a8 a7 SV rfl 4 lQ lR.out KR) rfl ⟨rfl, b6⟩
    | succ j =>
      have t1 : decide ((0 : Int) ≤ ((j + 1 : Nat) : Int) - 1) = true := by simp
      obtain ⟨i, hi⟩ := Nm (((j + 1 : Nat) : Int) - 1)
      have hij : i = (j : Int) := by omega
      rw [← hi] at t1 ⊢
      subst hij
      clear hi
      have hjl : j < 256 := by omega
      have hst := Je a b j hb0 hb _ _ rfl rfl
      have hlr := Be a b (j + 1) hb0
      have hdv := Ct a b (j + 1)
      have hcd := hXc.out j hjl
      have hd2 := mF a j
      obtain ⟨r, hr⟩ := Nm (mH a b (j + 1))
      obtain ⟨d, hd⟩ := Nm (cS a j)
      rw [← hr] at hst hlr D
      rw [← hd] at hst hd2 hcd
      have HS := PW r OM 1 1 OM OM
      rw [Nat.pow_one, Nat.mul_comm r 2] at HS
      obtain ⟨D1, hD1⟩ := Nm (2 * r % 2 ^ 256)
      obtain ⟨O, hO⟩ := Nm (decide (2 ^ 256 ≤ 2 * r))
      rw [← hD1] at HS hst
      rw [← hO] at HS
      have hDe : D1 % 2 = 0 := by omega
      have hset := NG D1 d hDe hd2
      have hDl := fG D1 0
      obtain ⟨L, hL⟩ := Nm (lim D1 0)
      have cK := Bc D1 0 OM
      rw [← hL] at hset hDl cK
      have hor : bits .or .u64 (L : Int) (d : Int) = ((L ||| d : Nat) : Int) := (bits_nat .u64 64 DC wraps_u64 L d hDl OM).2
      have hcv : IntKind.u64.wrap (d : Int) = (d : Int) := by rw [IntKind.wrap_u64]; omega
      obtain ⟨P, hP⟩ := Nm (L ||| d)
      rw [← hP] at hset hor
      obtain ⟨V1, hV1⟩ := Nm (D1 + d)
      rw [← hV1] at hset hst
      obtain ⟨hVl, hst1, hst2⟩ := hst
      have HB := Rp V1 b hVl hb
      have HC := Rq V1 b hVl hb
      rw [← hB.out] at HB HC
      have hqd := Mb (lV a b (j + 1)) j hdv hjl
      have hqg : H + 3 < g7 ∧ g7 < g8 ∧ g8 < g9 := ⟨q7, q8, q8'⟩
      have hOr : O = true ↔ 2 ^ 256 ≤ 2 * r := by rw [hO]; simp
      have lM := eG (lV a b (j + 1)) 256
      obtain ⟨M, hM⟩ := Nm (jB (lV a b (j + 1)) 256)
      rw [← hM] at D hqd lM
      replace HS := Hy HS
      replace HB := Hy HB
      replace HC := Hy HC
      replace hset := Hy hset
      replace hst1 := Hy hst1
      replace hst2 := Hy hst2
      replace hqd := Hy hqd
      replace hr := Hy hr
      replace hd := Hy hd
      replace hD1 := Hy hD1
      replace hL := Hy hL
      replace hP := Hy hP
      replace hM := Hy hM
      replace hOr := Hy hOr
      clear hO hV1 hDl hlr hdv
      have gW := D.v9.lt
      go_upto_region 10 with (first
        | ((with_reducible refine LF D.v9 4 (jK r) SV ?_ ?_);rfl)
        | (go_at_call 124; refine (HS.out _).mono ?_; rintro e w1 ⟨rfl, b1⟩)
        | ((with_reducible refine SN (uc D1) 4 ?_ ?_ ?_);rfl;rfl;intro w2 a11 b2 k2 z2;clear k2 z2))
      have b12 := b1.trans (b2.mono b1.size)
      replace bw := bw.trans (b12.mono bw.size)
      replace D := D.b b12
      obtain ⟨g, hg⟩ := Nm (w1.heap.size)
      have gg : g9 < g := by rw [hg]; exact Nat.lt_of_lt_of_le gW b1.size
      rw [← hg] at a11 ⊢
      replace hg := Hy hg
      clear b1 b2 b12 gW
      have cs := a11.cell 0 _ cK
      have cx := D.v7.cell j _ hcd
      have hl : 0 < (uc D1).length := by rw [jK]; omega
      have j0 : (0 : Int) ≤ (j : Int) := by omega
      have j1 : (j : Int) < 256 := by omega
      go_still_tail 8, (by kernel_rfl)
      change wpList _ _ _ _ _ (World.drew _)
      have bd := below_drewN (Below.refl w2.heap.size w2) 1
      rw [← World.drew_is_drewN] at bd
      generalize w2.drew = w3 at *
      replace bw := bw.trans (bd.mono bw.size)
      replace D := D.b bd
      replace a11 := a11.b bd
      clear bd cs cx cK hcd
      refine cR 92 a11 hl .u64 (P : Int) ?_ ?_ zR ?_
      · rfl
      · rfl
      intro w4 a4 f4
      rw [hset.out] at a4
      replace D := D.fr f4 hqg gg
      replace bw := bw.trans (f4.b (B := w.heap.size) (fun k hk => by omega) bw.size)
      have hw9 : w.heap.size ≤ g9 := by omega
      clear a11 f4 hor hcv hl
      go_upto_region 12 with (first
        | ((with_reducible refine LF a4 4 (jK V1) SV ?_ ?_);rfl)
        | ((with_reducible refine SF bw D.v9 hw9 (uc V1) 4 ?_ ?_ ?_);rfl;rfl;intro w5 a5 b5 k5 z5))
      replace D := D.fr9 k5 hqg a5
      replace bw := b5
      clear a5 b5 k5 z5 a4
      by_cases hgo : 2 ^ 256 ≤ 2 * r ∨ b ≤ V1
      · obtain ⟨hR1, hQ1⟩ := hst1.out hgo
        have HB2 := HB.out
        rw [hR1] at HB2
        replace HB2 := Hy HB2
        have hq2 := hqd.out
        rw [← hQ1] at hq2
        replace hq2 := Hy hq2
        have hl : j < M.length := by rw [lM]; exact hjl
        have hcmp : O = false → decide ((0 : Int) ≤ qE V1 b) = true := fun h => by rw [FP]; simp; have := hOr.out; simp [h] at this; omega
        replace hcmp := Hy hcmp
        clear hgo hR1 hQ1 hOr
        cases O
        all_goals
          first
            | (have t2 := hcmp.out rfl
               go_upto_region 13 with (first
                 | ((with_reducible refine LG D.v9 4 SV ?_ ?_ ?_ (hn:=(jK V1)));rfl;rfl)
                 | ((with_reducible refine LG D.v1 4 SV ?_ ?_ ?_ (hn:=lB.out));rfl;rfl)
                 | (go_at_call 125; refine (HC.out _).mono ?_; rintro e w6 ⟨rfl, b6⟩))
               replace D := D.b b6
               replace bw := bw.trans (b6.mono bw.size))
            | (go_upto_region 13 with fail)
          have g9l := D.v9.lt
          go_upto_region 14 with (first
            | ((with_reducible refine LF D.v9 4 (jK V1) SV ?_ ?_);rfl)
            | ((with_reducible refine LF D.v1 4 lB.out SV ?_ ?_);rfl)
            | (go_at_call 126; refine (HB2.out _).mono ?_; rintro e w7 ⟨rfl, b7⟩)
            | ((with_reducible refine SN (uc (mH a b j)) 4 ?_ ?_ ?_);rfl;rfl;intro w8 a8 b8 k2 z2;clear k2 z2))
          replace b8 := b7.trans (b8.mono b7.size)
          replace D := D.b b8
          replace bw := bw.trans (b8.mono bw.size)
          clear b7 b8 g9l
          go_upto_region 15 with (first
            | ((with_reducible refine LF a8 4 (jK (mH a b j)) SV ?_ ?_);rfl)
            | ((with_reducible refine SF bw D.v9 hw9 (uc (mH a b j)) 4 ?_ ?_ ?_);rfl;rfl;intro w9 a5 b5 k5 z5))
          replace D := D.fr9 k5 hqg a5
          replace bw := b5
          clear a5 b5 k5 z5 a8
          go_upto_region 8 with ((with_reducible refine cR 3 D.v8 hl .i64 1 ?_ ?_ mS ?_); rfl; rfl; intro w10 a6 f6)
          rw [hq2.out] at a6
          replace D := D.fr8 f6 hqg a6
          replace bw := bw.trans (f6.b (B := w.heap.size) (fun k hk => by omega) bw.size)
          clear a6 f6
          go_wp2
          refine ⟨⟨j, by omega, by go_num, bw, D⟩, ?_⟩
          simp [intOf]
      · obtain ⟨e1, e2⟩ := hst2.out hgo
        have t2 : decide ((0 : Int) ≤ qE V1 b) = false := by rw [FP, decide_eq_false OM]
        have hO : O = false := by
          cases O with
          | false => rfl
          | true => exact absurd (Or.inl (hOr.out.1 rfl)) hgo
        subst hO
        have D' := D
        rw [e1, hM.out, ← e2] at D'
        replace D' := Hy D'
        clear hgo e1 e2
        go_wp2_with (first
          | ((with_reducible refine LG D.v9 4 SV ?_ ?_ ?_ (hn:=(jK V1)));rfl;rfl)
          | ((with_reducible refine LG D.v1 4 SV ?_ ?_ ?_ (hn:=lB.out));rfl;rfl)
          | (go_at_call 125; refine (HC.out _).mono ?_; rintro e w6 ⟨rfl, b6⟩))
        refine ⟨⟨j, by omega, by go_num, bw.trans (b6.mono bw.size), D'.out.b b6⟩, ?_⟩
        simp [intOf]
open Go.RowKit
structure Nd where
 id:List UInt8
 head:Hd
 par:Int
 hgt:Nat
 wrk:Nat
def fE (b:Nat):Nat:=match lP b with
 |none=>0
 |some t=>if 115792089237316195423570985008687907853269984665640564039457584007913129639936≤t+1 then 1 else ((115792089237316195423570985008687907853269984665640564039457584007913129639935 - t) / (t+1)+1) % 115792089237316195423570985008687907853269984665640564039457584007913129639936
def bZ (ns:List Nd) (x:List UInt8):Option Nat:=ns.findIdx? fun n=>n.id==x
def gS (ns:List Nd) (h:Hd):Option Nd:=
 if ns.length=0 then some ⟨dS h,h,-1,0,fE h.bits⟩
 else match bZ ns h.prev with
  |none=>none
  |some i=>match ns[i]? with
   |none=>none
   |some n=>some ⟨dS h,h,(i:Int),n.hgt+1,(n.wrk+fE h.bits) % 115792089237316195423570985008687907853269984665640564039457584007913129639936⟩
def iD (most:Nat) (ns:List Nd) (h:Hd):List Nd × Int × Nat:=
 match bZ ns (dS h) with
 |some i=>(ns,(i:Int),10)
 |none=>match gS ns h with
  |none=>(ns,-1,9)
  |some n=>if most≤ns.length then (ns,-1,12) else (ns++ [n],(ns.length:Int),0)
structure nH (ns:List Nd):Prop where
 head:∀ (k:Nat) (n:Nd),ns[k]? =some n→n.head.ok∧n.id=dS n.head∧n.wrk<115792089237316195423570985008687907853269984665640564039457584007913129639936
 root:∀ n:Nd,ns[0]? =some n→n.par= -1∧n.hgt=0∧n.wrk=fE n.head.bits
 step:∀ (k:Nat) (n:Nd),ns[k]? =some n→k≠0→∃ (p:Nat) (m:Nd),n.par=(p:Int)∧p<k∧ns[p]? =some m∧n.hgt=m.hgt+1∧n.wrk=(m.wrk+fE n.head.bits) % 115792089237316195423570985008687907853269984665640564039457584007913129639936∧n.head.prev=m.id
 apart:∀ (i j:Nat) (n m:Nd),ns[i]? =some n→ns[j]? =some m→n.id=m.id→i=j
theorem wR (b:Nat):fE b<115792089237316195423570985008687907853269984665640564039457584007913129639936:=by
 unfold fE
 split
 ·omega
 ·split
  ·omega
  ·exact Nat.mod_lt _ OM
theorem pO {ns:List Nd} {x:List UInt8} {i:Nat} (h:bZ ns x=some i):∃ n,ns[i]? =some n∧n.id=x:=by
 unfold bZ at h
 rw[List.findIdx?_eq_some_iff_getElem] at h
 obtain⟨hi,h1,_⟩:=h
 exact⟨ns[i],List.getElem?_eq_getElem hi,by simpa using h1⟩
theorem Er {ns:List Nd} {x:List UInt8} (h:bZ ns x=none):∀ (i:Nat) (n:Nd),ns[i]? =some n→n.id≠x:=by
 intro i n hi e
 unfold bZ at h
 rw[List.findIdx?_eq_none_iff] at h
 have:=h n (List.mem_of_getElem? hi)
 simp[e] at this
theorem oP {ns:List Nd} {x:List UInt8} {i:Nat} (h:bZ ns x=some i):i<ns.length:=by
 obtain⟨n,hn,_⟩:=pO h
 exact(List.getElem?_eq_some_iff.1 hn).1
theorem nH.nil:nH []:=⟨by simp,by simp,by simp,by simp⟩
theorem Jj {ns:List Nd} {h:Hd} {n:Nd} (e:gS ns h=some n):n.id=dS h∧n.head=h∧n.wrk<115792089237316195423570985008687907853269984665640564039457584007913129639936:=by
 unfold gS at e
 generalize dS h=I at*
 split at e
 ·have e:=Option.some.inj e
  subst e
  exact⟨rfl,rfl,wR _⟩
 ·split at e
  ·cases e
  ·split at e
   ·cases e
   ·have e:=Option.some.inj e
    subst e
    refine⟨rfl,rfl,?_⟩
    dsimp only
    exact Nat.mod_lt _ OM
theorem tJ {α:Type} {l:List α} {x y:α} {k:Nat} (h:(l++ [x])[k]? =some y):(l[k]? =some y∧k<l.length)∨(k=l.length∧y=x):=by
 by_cases hk:k<l.length
 ·rw[List.getElem?_append_left hk] at h
  exact .inl ⟨h,hk⟩
 ·have hl:=(List.getElem?_eq_some_iff.1 h).1
  rw[List.length_append,List.length_singleton] at hl
  have:k=l.length:=by omega
  subst this
  simp at h
  exact .inr ⟨rfl,h.symm⟩
theorem Ac {α:Type} {l:List α} {x y:α} {k:Nat} (h:l[k]? =some y):(l++ [x])[k]? =some y:=by
 rw[List.getElem?_append_left (List.getElem?_eq_some_iff.1 h).1];exact h
theorem nH.snoc {ns:List Nd} (ok:nH ns) {h:Hd} (hh:h.ok) {n:Nd} (e:gS ns h=some n) (hf:bZ ns (dS h)=none):nH (ns++ [n]):=by
 obtain⟨e1,e2,e3⟩:=Jj e
 have hno:=Er hf
 constructor
 ·intro k m hm
  rcases tJ hm with ⟨h1,_⟩|⟨_,rfl⟩
  ·exact ok.head k m h1
  ·exact⟨by rw[e2];exact hh,by rw[e1,e2],e3⟩
 ·intro m hm
  rcases tJ hm with ⟨h1,_⟩|⟨h1,rfl⟩
  ·exact ok.root m h1
  ·unfold gS at e
   rw[if_pos h1.symm] at e
   obtain rfl:=Option.some.inj e;exact⟨rfl,rfl,rfl⟩
 ·intro k m hm hk
  rcases tJ hm with ⟨h1,_⟩|⟨h1,rfl⟩
  ·obtain⟨p,q,a,b,c,d⟩:=ok.step k m h1 hk
   exact⟨p,q,a,b,Ac c,d⟩
  ·unfold gS at e
   rw[if_neg OM] at e
   split at e
   ·cases e
   ·rename_i i hi
    obtain⟨q,hq,hqi⟩:=pO hi
    rw[hq] at e
    obtain rfl:=Option.some.inj e
    exact⟨i,q,rfl,by have:=oP hi;omega,Ac hq,rfl,rfl,hqi.symm⟩
 ·intro i j a b ha hb hab
  rcases tJ ha with ⟨h1,_⟩|⟨h1,rfl⟩ <;> rcases tJ hb with ⟨h2,_⟩|⟨h2,rfl⟩
  ·exact ok.apart i j a b h1 h2 hab
  ·exact absurd (hab.trans e1) (hno i a h1)
  ·exact absurd (hab.symm.trans e1) (hno j b h2)
  ·omega
theorem Mm {most:Nat} {ns:List Nd} (ok:nH ns) {h:Hd} (hh:h.ok):nH (iD most ns h).1:=by
 unfold iD
 split
 ·exact ok
 ·split
  ·exact ok
  ·rename_i hf _ n hn
   split
   ·exact ok
   ·exact ok.snoc hh hn hf
def jP (most:Nat) (l:List Hd):List Nd:=l.foldl (fun ns h=>(iD most ns h).1) []
theorem GR (most:Nat) (l:List Hd) (h:Hd):jP most (l++ [h])=(iD most (jP most l) h).1:=by simp[jP]
theorem Bz (most:Nat) (l:List Hd) (hl:∀ h ∈ l,h.ok):nH (jP most l):=by
 have:∀ (l:List Hd) (ns:List Nd),(∀ h ∈ l,h.ok)→nH ns→nH (l.foldl (fun ns h=>(iD most ns h).1) ns):=by
  intro l
  induction l with
  |nil=>intro ns _ h;exact h
  |cons x l ih=>intro ns h1 h2;exact ih _ (fun y hy=>h1 y (List.mem_cons_of_mem _ hy)) (Mm h2 (h1 x List.mem_cons_self))
 exact this l [] hl nH.nil
theorem Ad (most:Nat) (l:List Hd) (k:Nat) (h:Hd) (hk:l[k]? =some h):jP most (l.take (k+1))=(iD most (jP most (l.take k)) h).1:=by
 rw[List.take_add_one,hk];exact GR _ _ _
def tK (ns:List Nd) (i:Nat):Nat:=match ns[i]? with
 |some n=>n.par.toNat
 |none=>0
def dP (ns:List Nd) (i:Nat):Nat:=match ns[i]? with
 |some n=>n.hgt
 |none=>0
def GT (ns:List Nd) (i:Nat):Nat:=match ns[i]? with
 |some n=>n.wrk
 |none=>0
def jE (ns:List Nd) (i:Nat):Nat→Nat
 |0=>i
 |d+1=>tK ns (jE ns i d)
theorem OI {ns:List Nd} {i:Nat} {n:Nd} (h:ns[i]? =some n):tK ns i=n.par.toNat∧dP ns i=n.hgt∧GT ns i=n.wrk:=by
 simp[tK,dP,GT,h]
theorem nH.up {ns:List Nd} (ok:nH ns) {i:Nat} (hi:i<ns.length):(dP ns i=0∧i=0)∨(i≠0∧tK ns i<i∧dP ns i=dP ns (tK ns i)+1∧GT ns i=(GT ns (tK ns i)+fE ((ns[i]).head.bits)) % 115792089237316195423570985008687907853269984665640564039457584007913129639936):=by
 have h:=List.getElem?_eq_getElem hi
 obtain⟨a,b,c⟩:=OI h
 by_cases h0:i=0
 ·subst h0
  exact .inl ⟨by rw[b];exact(ok.root _ h).2.1,rfl⟩
 ·obtain⟨p,m,e1,e2,e3,e4,e5,_⟩:=ok.step i _ h h0
  obtain⟨_,b2,c2⟩:=OI e3
  have:tK ns i=p:=by rw[a,e1];rfl
  rw[this]
  exact .inr ⟨h0,e2,by rw[b,b2,e4],by rw[c,c2,e5]⟩
theorem nH.hgt_0 {ns:List Nd} (ok:nH ns) {i:Nat} (hi:i<ns.length):dP ns i=0↔i=0:=by
 rcases ok.up hi with ⟨a,b⟩|⟨a,_,b,_⟩ <;> omega
theorem nH.anc {ns:List Nd} (ok:nH ns) {i:Nat} (hi:i<ns.length):∀ d,d≤dP ns i→jE ns i d<ns.length∧dP ns (jE ns i d)=dP ns i - d∧jE ns i d+d≤i
 |0,_=>⟨hi,by simp[jE],by simp[jE]⟩
 |d+1,hd=>by
  obtain⟨a,b,c⟩:=ok.anc hi d OM
  rcases ok.up a with ⟨e,_⟩|⟨_,e1,e2,_⟩
  ·omega
  ·simp only[jE]
   omega
theorem nH.hgt_le {ns:List Nd} (ok:nH ns) {i:Nat} (hi:i<ns.length):dP ns i≤i:=by
 have:=(ok.anc hi _ LR).2.2
 omega
def wS (ns:List Nd) (i:Nat):List Nat:=(List.range (dP ns i+1)).map fun k=>jE ns i (dP ns i - k)
theorem mL (ns:List Nd) (i:Nat):(wS ns i).length=dP ns i+1:=by simp[wS]
theorem tL (ns:List Nd) (i k:Nat) (h:k≤dP ns i):(wS ns i)[k]? =some (jE ns i (dP ns i - k)):=by
 simp[wS,List.getElem?_range (show k<dP ns i+1 by omega)]
def Qi (ns:List Nd):Nat→Nat→Nat→Nat
 |0,i,_=>i
 |f+1,i,j=>if i=j then i else if j<i then Qi ns f (tK ns i) j else Qi ns f i (tK ns j)
def SK (ns:List Nd) (c i:Nat):Prop:=∃ d,d≤dP ns i∧jE ns i d=c
def Ru (ns:List Nd) (i:Nat):Bool:=!ns.any fun n=>n.par==(i:Int)
def Sj (ns:List Nd):List Nat:=(List.range ns.length).filter (Ru ns)
def Jk (ns:List Nd):Nat→Nat
 |0=>0
 |k+1=>if GT ns (Jk ns k)<GT ns k then k else Jk ns k
def Sk (ns:List Nd):Nat:=Jk ns ns.length
def So (b:Nat):Bool:=decide (538968063≤b) && decide (b≤545259519)
theorem Jl {b t:Nat} (h:lP b=some t):t+1<115792089237316195423570985008687907853269984665640564039457584007913129639936:=by
 unfold lP at h
 have hm:b % 8388608<8388608:=Nat.mod_lt _ OM
 generalize b % 8388608=m at*
 split at h
 ·cases h
 split at h
 ·cases h
 split at h
 ·split at h
  ·cases h
  ·have:=Option.some.inj h
   have:=Nat.div_le_self m (2 ^ (8*(3 - b / 16777216)))
   omega
 ·split at h
  ·cases h
  ·have h:=Option.some.inj h
   by_cases e:b / 16777216=3
   ·rw[e,Nat.sub_self,Nat.mul_zero,Nat.pow_zero,Nat.mul_one] at h
    omega
   ·rw[show 8*(b / 16777216 - 3)=8*(b / 16777216 - 3) - 1+1 by omega,Nat.pow_succ,← Nat.mul_assoc] at*
    generalize m*2 ^ (8*(b / 16777216 - 3) - 1)=y at*
    omega
theorem Xm113 {p q:Prop} (k:q) (h:Hid q→p:=by
 intro hk
 obtain⟨W,hW⟩:=Nm (w.alloc (.cells #[.int .u64 0,.int .u64 0,.int .u64 0,.int .u64 0] 158))
 obtain⟨H,hH⟩:=Nm (w.heap.size)
 have bW:Below H w W:=by rw[hW,hH];exact(Below.refl _ _).alloc LR _
 have aR:Av W H 158 (fS 0 0 0 0):=by rw[hW,hH];exact heap_alloc_new _ _
 replace HE:=Hy HE
 replace hW:=Hy hW
 replace hH:=Hy hH
 go_enter func61,ntmps61
 go_upto_region 1 with fail
 rw[← hW.out,← hH.out]
 rename_i zq0 zq1 zq2
 revert W H bW aR HE hW hH zq0 zq1 zq2;exact hk.out):p:=h (Hy k)
theorem Jm (b:Nat) (hb:b<4294967296) (h:lP b=none) (w:World):
  Calls prog 61 #[.int .u32 (b:Int)] w fun e w'=>e= .returned (.agg (uc 0).toArray)∧Below w.heap.size w w':=by
 have HE:=FN b hb
 rw[jT h] at HE
 have z4:=Hy vX
 refine Xm113 ?_;try clear HE;intro W H bW aR HE hW hH _ _ _
 go_upto_region 2 with (first
  |(go_at_call 89;refine(HE.out W).mono ?_;rintro e w1 ⟨rfl,b1⟩)
  |((with_reducible refine SN (uc 0) 4 ?_ ?_ ?_);rfl;rfl;intro w2 a2 b2 k2 z2;clear k2;replace z2:=Hy z2))
 have hlt:=aR.lt
 have c2:Below H w w2:=(bW.trans (b1.mono (Nat.le_of_lt hlt))).trans (b2.mono (Nat.le_trans (Nat.le_of_lt hlt) b1.size))
 have r2:=(aR.b b1).b b2
 clear b1 b2 a2 bW aR
 go_wp2_with ((with_reducible refine SF c2 r2 LR (fS 0 0 0 0) 4 ?_ ?_ ?_);rfl;rfl;intro w6 a6 b6 k6 z6;clear k6;replace z6:=Hy z6)
 refine bodyPost_ret (results_cell_row rfl _ _ H _ _ (0,0) _ bM a6 SV rfl KR) rfl ⟨by rw[z4.out],by rw[← hH.out];exact b6⟩
theorem Xc141 {p:Prop} (h:p:=by
 simp at hb
 subst hb
 exact iY h0 rfl _ _ _ rfl rfl rfl 4 rfl KR rfl):p:=h
theorem GU (b t:Nat) (hb:b<4294967296) (h:lP b=some t) (w:World):
  Calls prog 61 #[.int .u32 (b:Int)] w fun e w'=>e= .returned (.agg (uc (fE b)).toArray)∧Below w.heap.size w w':=by
 have HE:=FN b hb
 rw[oJ h] at HE
 have ht1:=Jl h
 have HO:=Sg 1 OM
 have HA:=Ou t 1 (by rw[jH];omega) DC
 have HN:=Ro t (by rw[jH];omega)
 obtain⟨N,hN⟩:=Nm (2 ^ 256 - 1 - t)
 obtain⟨V,hV⟩:=Nm (t+1)
 obtain⟨o,ho⟩:=Nm (decide (2 ^ 256≤t+1))
 rw[← ho,Nat.mod_eq_of_lt (by rw[jH];exact ht1),← hV] at HA
 rw[← hN] at HN
 have HD:=Rs N V (by rw[hN];omega) (by rw[hV,jH];exact ht1) OM
 obtain⟨q,hq⟩:=Nm (N / V)
 obtain⟨r,hr⟩:=Nm (N % V)
 have hql:q≤N:=by rw[hq];exact Nat.div_le_self _ _
 have HX:=Ou q 1 OM DC
 obtain⟨X,hX⟩:=Nm ((q+1) % 2 ^ 256)
 obtain⟨ox,hox⟩:=Nm (decide (2 ^ 256≤q+1))
 rw[← hX,← hox] at HX
 rw[← hq,← hr] at HD
 have hRe:fE b=X:=by
  rw[fE,h]
  simp only
  rw[if_neg OM,hX,hq,hN,hV,jH]
 rw[hRe]
 replace HO:=Hy HO
 replace HA:=Hy HA
 replace HN:=Hy HN
 replace HD:=Hy HD
 replace HX:=Hy HX
 clear hX hox hq hr hql hN hV hRe ho ht1
 refine Xm113 ?_;try clear HE;intro W H bW aR HE hW hH _ _ _
 go_upto_region 2 with (first
  |(go_at_call 89;refine(HE.out W).mono ?_;rintro e w1 ⟨rfl,b1⟩)
  |((with_reducible refine SN (uc t) 4 ?_ ?_ ?_);rfl;rfl;intro w2 a2 b2 k2 z2;clear k2;replace z2:=Hy z2))
 have hlt:=aR.lt
 have c2:Below H w w2:=(bW.trans (b1.mono (Nat.le_of_lt hlt))).trans (b2.mono (Nat.le_trans (Nat.le_of_lt hlt) b1.size))
 have r2:=(aR.b b1).b b2
 have hg:H<w1.heap.size:=Nat.lt_of_lt_of_le hlt b1.size
 obtain⟨G,hG⟩:=Nm (w1.heap.size)
 rw[← hG] at hg a2 ⊢
 have a3:=a2
 clear b1 b2 a2 bW aR hG
 go_upto_region 4 with fail
 refine dG [⟨6,5,7,158,fS 0 0 0 0,uc V⟩] [] KR KR KR KR KR (by intro e he;cases he) zS (by intro e he;cases he) ?_
 refine dK rfl rfl rfl rfl (c:=.agg (uc t).toArray) (fun w hw=>aE (a3.b hw.nil) _ _ rfl rfl _ 4 rfl SV rfl KR) zZ ?_
 refine jO rfl rfl rfl rfl (c:=.agg (uc 1).toArray) 90 #[.int .u64 1] (fun w=>by go_simp) (fun w hw=>(HO.out w).mono (by rintro e w' ⟨rfl,b⟩;exact⟨rfl,b⟩)) zZ ?_
 refine jO rfl rfl rfl rfl (c:=.tuple #[.agg (uc V).toArray,.bool o]) 62 #[.agg (uc t).toArray,.agg (uc 1).toArray] (fun w=>by go_simp) (fun w hw=>(HA.out w).mono (by rintro e w' ⟨rfl,b⟩;exact⟨rfl,b⟩)) zZ ?_
 refine mT rfl rfl rfl rfl _ (.inl rfl) pB zZ ?_
 refine dK rfl rfl rfl rfl (c:=.agg (uc V).toArray) vR zZ ?_
 refine dK rfl rfl rfl rfl (c:=.bool o) vR zZ ?_
 refine mU rfl rfl (fun ρ w=>by unfold execOp;go_simp;rfl) ?_
 refine mV rfl rfl (fun w hw=>aC rfl rfl fun v _=>aF fun b hb h0=>?_) ?_
 ·exact Xc141
 refine mT rfl rfl rfl rfl _ (.inr rfl) pB zZ ?_
 refine wM fun w4 hw4=>aC rfl rfl fun v _=>aF fun hJ _=>?_
 obtain⟨gV,hb,hB,aV⟩:=hJ.at_ ⟨6,5,7,158,fS 0 0 0 0,uc V⟩ (List.mem_cons_self ..) rfl
 simp at hb
 subst hb
 replace aV:Av w4 gV 158 (uc V):=aV
 have b4:Below w2.heap.size w2 w4:=hw4.nil
 have c4:=c2.trans (b4.mono (Nat.le_of_lt r2.lt))
 have a4:=a3.b b4
 have r4:=r2.b b4
 clear hw4 hJ r2 a3 b4 hB
 simp only[List.set_cons_succ,List.set_cons_zero]
 go_upto_region 5 with fail
 refine dG [⟨8,7,10,158,fS 0 0 0 0,uc q⟩,⟨9,8,11,158,fS 0 0 0 0,uc r⟩] [] KR KR KR KR KR (by intro e he;cases he) zS (by intro e he;cases he) ?_
 refine dK rfl rfl rfl rfl (c:=.agg (uc t).toArray) (fun w hw=>aE (a4.b hw.nil) _ _ rfl rfl _ 4 rfl SV rfl KR) zZ ?_
 refine jO rfl rfl rfl rfl (c:=.agg (uc N).toArray) 92 #[.agg (uc t).toArray] (fun w=>by go_simp) (fun w hw=>(HN.out w).mono (by rintro e w' ⟨rfl,b⟩;exact⟨rfl,b⟩)) zZ ?_
 refine dK rfl rfl rfl rfl (c:=.agg (uc V).toArray) (fun w hw=>aE (aV.b hw.nil) _ _ rfl rfl _ 4 rfl SV rfl KR) zZ ?_
 refine jO rfl rfl rfl rfl (c:=.tuple #[.agg (uc q).toArray,.agg (uc r).toArray,.bool true]) 91 #[.agg (uc N).toArray,.agg (uc V).toArray] (fun w=>by go_simp) (fun w hw=>(HD.out w).mono (by rintro e w' ⟨rfl,b⟩;exact⟨rfl,b⟩)) zZ ?_
 refine mT rfl rfl rfl rfl _ (.inl rfl) pB zZ ?_
 refine dK rfl rfl rfl rfl (c:=.agg (uc q).toArray) vR zZ ?_
 refine dK rfl rfl rfl rfl (c:=.agg (uc r).toArray) vR zZ ?_
 refine dK rfl rfl rfl rfl (c:=.bool true) vR zZ ?_
 refine mU rfl rfl (fun ρ w=>by unfold execOp;go_simp;rfl) ?_
 refine mU rfl rfl (fun ρ w=>by unfold execOp;go_simp;rfl) ?_
 refine mV rfl rfl (fun w hw=>aC rfl rfl fun v _=>bN rfl (aF fun b hb h0=>?_)) ?_
 ·exact Xc141
 refine mV rfl rfl (fun w hw=>bN rfl (aC rfl rfl fun v _=>aF fun b hb h0=>?_)) ?_
 ·exact Xc141
 refine mT rfl rfl rfl rfl _ (.inr rfl) pB zZ ?_
 refine wM fun w5 hw5=>aC rfl rfl fun v _=>aC rfl rfl fun v' _=>aF fun hJ _=>?_
 obtain⟨g7,hb,hB,a7⟩:=hJ.at_ ⟨8,7,10,158,fS 0 0 0 0,uc q⟩ (List.mem_cons_self ..) rfl
 obtain⟨g8,hb',_,_⟩:=hJ.at_ ⟨9,8,11,158,fS 0 0 0 0,uc r⟩ (List.mem_cons_of_mem _ (List.mem_cons_self ..)) rfl
 simp at hb hb'
 subst hb hb'
 replace a7:Av w5 g7 158 (uc q):=a7
 have b5:Below w4.heap.size w4 w5:=hw5.nil
 have c5:=c4.trans (b5.mono (Nat.le_of_lt r4.lt))
 have r5:=r4.b b5
 clear hw5 hJ r4 a4 b5 hB c4 aV
 simp only[List.set_cons_succ,List.set_cons_zero]
 go_upto_region 6 with fail
 refine dG [⟨6,10,7,158,fS 0 0 0 0,uc X⟩] [] KR KR KR KR KR (by intro e he;cases he) zS (by intro e he;cases he) ?_
 refine dK rfl rfl rfl rfl (c:=.agg (uc q).toArray) (fun w hw=>aE (a7.b hw.nil) _ _ rfl rfl _ 4 rfl SV rfl KR) zZ ?_
 refine jO rfl rfl rfl rfl (c:=.agg (uc 1).toArray) 90 #[.int .u64 1] (fun w=>by go_simp) (fun w hw=>(HO.out w).mono (by rintro e w' ⟨rfl,b⟩;exact⟨rfl,b⟩)) zZ ?_
 refine jO rfl rfl rfl rfl (c:=.tuple #[.agg (uc X).toArray,.bool ox]) 62 #[.agg (uc q).toArray,.agg (uc 1).toArray] (fun w=>by go_simp) (fun w hw=>(HX.out w).mono (by rintro e w' ⟨rfl,b⟩;exact⟨rfl,b⟩)) zZ ?_
 refine mT rfl rfl rfl rfl _ (.inl rfl) pB zZ ?_
 refine dK rfl rfl rfl rfl (c:=.agg (uc X).toArray) vR zZ ?_
 refine dK rfl rfl rfl rfl (c:=.bool ox) vR zZ ?_
 refine mU rfl rfl (fun ρ w=>by unfold execOp;go_simp;rfl) ?_
 refine mV rfl rfl (fun w hw=>aC rfl rfl fun v _=>aF fun b hb h0=>?_) ?_
 ·exact Xc141
 refine mT rfl rfl rfl rfl _ (.inr rfl) pB zZ ?_
 refine wM fun w6 hw6=>aC rfl rfl fun v _=>aF fun hJ _=>?_
 obtain⟨gX,hb,hB,aX⟩:=hJ.at_ ⟨6,10,7,158,fS 0 0 0 0,uc X⟩ (List.mem_cons_self ..) rfl
 simp at hb
 subst hb
 replace aX:Av w6 gX 158 (uc X):=aX
 have b6:Below w5.heap.size w5 w6:=hw6.nil
 have c6:=c5.trans (b6.mono (Nat.le_of_lt r5.lt))
 have r6:=r5.b b6
 clear hw6 hJ r5 a7 b6 hB c5
 simp only[List.set_cons_succ,List.set_cons_zero]
 have hHG:H≤H:=Nat.le_refl _
 go_wp2_with (first
  |((with_reducible refine LH aX 4 SV ?_ ?_);rfl)
  |((with_reducible refine SF c6 r6 hHG (uc X) 4 ?_ ?_ ?_);rfl;rfl;intro w7 a9 b9 k9 z9;clear k9;replace z9:=Hy z9))
 refine bodyPost_ret (results_cell_row rfl _ _ H _ _ (0,0) _ bM a9 SV rfl KR) rfl ⟨rfl,by rw[← hH.out];exact b9⟩
theorem Qj (b:Nat) (hb:b<4294967296) (w:World):
  Calls prog 61 #[.int .u32 (b:Int)] w fun e w'=>e= .returned (.agg (uc (fE b)).toArray)∧Below w.heap.size w w':=by
 cases h:lP b with
 |none=>
  rw[show fE b=0 by rw[fE,h]]
  exact Jm b hb h w
 |some t=>exact GU b t hb h w
end Go.Proofs.YtobjgebojhjhnaaGreatDoor
