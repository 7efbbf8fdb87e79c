import Derived.Test.YtobjgebojhjhnaaGreatDoorQr8
import Derived.StillTailTactics
import Derived.Laws.Externs
namespace Go.Proofs.YtobjgebojhjhnaaGreatDoor
set_option maxRecDepth 100000
set_option maxHeartbeats 16000000
open Go.RowKit Tryz
theorem RS.ofBelow {H:Nat} {t:TypeId} {C:List Value} {w w':World} (h:Below w.heap.size w w'):RS H t C w w':=
 ⟨Below.fr h,fun a=>a.b h,fun ⟨l,a,e⟩=>⟨l,a.b h,e⟩⟩
theorem wK (w:World):(sizeOf 92).run prog w= .ok 1 w:=by
 obtain⟨i0,hi,hz⟩:=Option.map_eq_some_iff.1 oG
 simp[sizeOf,typeInfo,hi,hz]
theorem NE (a b c d a' b' c' d':Nat) (w:World):(Op.equalIn 10000 151 (.agg (fS a b c d).toArray) (.agg (fS a' b' c' d').toArray)).run prog w= .ok (decide (a=a'∧b=b'∧c=c'∧d=d')) w:=by
 have h:=oI w 9998 151 92 4 .u64 SU underlying92 wK [(a:Int),b,c,d] [(a':Int),b',c',d'] rfl rfl
 refine h.trans ?_
 congr 1
 rw[Bool.eq_iff_iff]
 simp
 omega
theorem Ri (a b c d a' b' c' d':Nat) (w:World):(binOp .eql 151 (.agg (fS a b c d).toArray) (.agg (fS a' b' c' d').toArray)).run prog w= .ok (.bool (decide (a=a'∧b=b'∧c=c'∧d=d'))) w:=by
 rw[run_eql_struct,NE]
 rfl
theorem Rj (a b c d a' b' c' d':Nat) (w:World):(binOp .neq 151 (.agg (fS a b c d).toArray) (.agg (fS a' b' c' d').toArray)).run prog w= .ok (.bool (!decide (a=a'∧b=b'∧c=c'∧d=d'))) w:=by
 rw[run_neq_struct,NE]
 rfl
theorem PX (a b c d a' b' c' d':Nat) (x y:Operand) (w:World):(do eqGuard .eql 151 x y (.agg (fS a b c d).toArray) (.agg (fS a' b' c' d').toArray);binOp .eql 151 (.agg (fS a b c d).toArray) (.agg (fS a' b' c' d').toArray):Sem Value).run prog w= .ok (.bool (decide (a=a'∧b=b'∧c=c'∧d=d'))) w:=by
 rw[Sem.run_bind,show (eqGuard .eql 151 x y (.agg (fS a b c d).toArray) (.agg (fS a' b' c' d').toArray)).run prog w= .ok () w by go_simp,Result.andThen_ok,Ri]
theorem PY (a b c d a' b' c' d':Nat) (x y:Operand) (w:World):(do eqGuard .neq 151 x y (.agg (fS a b c d).toArray) (.agg (fS a' b' c' d').toArray);binOp .neq 151 (.agg (fS a b c d).toArray) (.agg (fS a' b' c' d').toArray):Sem Value).run prog w= .ok (.bool (!decide (a=a'∧b=b'∧c=c'∧d=d'))) w:=by
 rw[Sem.run_bind,show (eqGuard .neq 151 x y (.agg (fS a b c d).toArray) (.agg (fS a' b' c' d').toArray)).run prog w= .ok () w by go_simp,Result.andThen_ok,Rj]
theorem LU:uc 0= [.int .u64 0,.int .u64 0,.int .u64 0,.int .u64 0]:=qJ OM
theorem Ej (f:Nat→Nat) (q:Nat) (h:∀ j,j<q→f j=0):pH f q= [.int .u64 0,.int .u64 0,.int .u64 0,.int .u64 0]:=by
 have e:∀ j,(if j<q then f j else 0)=0:=fun j=>by split <;> simp[*]
 simp only[pH,e]
 rfl
theorem IQ (n q:Nat) (h:∀ j,q≤j→lim n j=0):pH (lim n) q=uc n:=by
 have e:∀ j,(if j<q then lim n j else 0)=lim n j:=fun j=>by
  split
  ·rfl
  ·exact(h j OM).symm
 simp only[pH,e]
 rfl
theorem IR (n q d i:Nat) (hi:i<q):lim (n*2 ^ (64*q+d)) i=0:=by
 refine Nat.eq_of_testBit_eq fun k=>?_
 rw[iC,Nat.testBit_mul_two_pow,Nat.zero_testBit]
 simp
 omega
theorem Xm154 {p q:Prop} (k:q) (h:Hid q→p:=by
 intro hk
 have e:∀ (v:World) (o:Obj),(v.alloc o).heap.size=v.heap.size+1:=fun v o=>by simp
 have:=heap_alloc_new ((w.alloc (.cells (uc n).toArray 151)).alloc (.cells #[.int .u64 0,.int .u64 0,.int .u64 0,.int .u64 0] 151)) (.cells #[.int .u64 0,.int .u64 0,.int .u64 0,.int .u64 0] 151)
 rw[e,e] at this
 revert e this;exact hk.out):p:=h (Hy k)
theorem Xm115 {p q:Prop} (k:q) (h:Hid q→p:=by
 intro hk
 have t1:decide (((64*q+d:Nat):Int)≤0)=false:=by simp;omega
 have t2:decide ((256:Int)≤((64*q+d:Nat):Int))=false:=by simp;omega
 have e1:Int.tdiv ((64*q+d:Nat):Int) 64=(q:Int):=by rw[Int.tdiv_eq_ediv_of_nonneg OM];omega
 have e2:Int.tmod ((64*q+d:Nat):Int) 64=(d:Int):=by rw[Int.tmod_eq_emod_of_nonneg OM];omega
 have e3:IntKind.i64.wrap (64 - (d:Int))=((64 - d:Nat):Int):=by rw[IntKind.wrap_i64];omega
 revert t1 t2 e1 e2 e3;exact hk.out):p:=h (Hy k)
theorem Xm78 {p q:Prop} (k:q) (h:Hid q→p:=by
 intro hk
 obtain⟨D,hD⟩:=Nm (64 - d)
 rw[← hD] at e3 hword
 have e1w:IntKind.i64.wrap (q:Int)=(q:Int):=by rw[IntKind.wrap_i64];omega
 obtain⟨W,hW⟩:=Nm (((w.alloc (.cells (uc n).toArray 151)).alloc (.cells #[.int .u64 0,.int .u64 0,.int .u64 0,.int .u64 0] 151)).alloc (.cells #[.int .u64 0,.int .u64 0,.int .u64 0,.int .u64 0] 151))
 obtain⟨H,hH⟩:=Nm (w.heap.size)
 have bW:Below w.heap.size w W:=by rw[hW];exact(((Below.refl _ _).alloc LR _).alloc zS _).alloc zU _
 have a0:Av W H 151 (uc n):=by rw[hW,hH];exact Av.alloc (heap_alloc2_old _ _ _) _
 have a1:Av W (H+1) 151 (uc 0):=by rw[hW,hH,LU];exact Av.alloc (heap_alloc2_new _ _ _) _
 revert D hword e3 hD e1w W hW H hH bW a0 a1;exact hk.out):p:=h (Hy k)
theorem Rk (n k:Nat) (hn:n<115792089237316195423570985008687907853269984665640564039457584007913129639936) (hk0:0<k) (hk:k<256) (w:World):
  Calls prog 118 #[.agg (uc n).toArray,.int .i64 (k:Int)] w fun e w'=>e= .returned (.agg (uc (n / 2 ^ k)).toArray)∧Below w.heap.size w w':=by
 obtain⟨q,d,hq,hd,rfl⟩:∃ q d,q<4∧d<64∧k=64*q+d:=⟨k / 64,k % 64,by omega,by omega,by omega⟩
 have hword:=fun j=>LJ n q d j hd
 have h4:∀ j,4≤j→lim n j=0:=fun j hj=>by
  unfold lim
  rw[Nat.div_eq_of_lt (Nat.lt_of_lt_of_le hn (Nat.le_trans DC (Nat.pow_le_pow_right (show 0<18446744073709551616 by omega) hj)))]
 refine Xm115 ?_;intro t1 t2 e1 e2 e3
 obtain⟨T,hT⟩:=Nm (n / 2 ^ (64*q+d))
 obtain⟨N,hN⟩:=Nm (64*q+d)
 rw[← hT]
 rw[← hT] at hword
 rw[← hN] at t1 t2 e1 e2 ⊢
 have hend:∀ j,4 - q≤j→lim T j=0:=fun j hj=>by rw[hword,h4 _ OM,h4 _ OM];simp
 have hf:=IQ T (4 - q) hend
 refine Xm78 ?_;try clear hword e3;intro D hword e3 hD e1w W hW H hH bW a0 a1
 have a2:Av W (H+2) 151 (pH (lim T) 0):=by
  refine Xm154 ?_;intro e this
  rw[hW,hH,Ej _ _ OM]
  exact this
 have hHl:w.heap.size≤H+1:=by rw[hH];omega
 have hk1:¬ N=0:=by omega
 replace hW:=Hy hW
 replace hH:=Hy hH
 replace hN:=Hy hN
 replace hD:=Hy hD
 replace hT:=Hy hT
 replace hf:=Hy hf
 replace hword:=Hy hword
 replace hend:=Hy hend
 replace h4:=Hy h4
 go_enter func118,ntmps118
 go_upto_region 6 with fail
 rw[show w.heap.size+1+1=w.heap.size+2 from rfl]
 rw[← hW.out,← hH.out]
 go_upto_region 8 with fail
 go_loopw [8] (fun i wr=>∃ j:Nat,j+q≤4∧i= .int .i64 (j:Int)∧Below w.heap.size w wr∧Av wr H 151 (uc n)∧Av wr (H+1) 151 (uc 0)∧Av wr (H+2) 151 (pH (lim T) j)) (fun i _=>4 - (intOf i).toNat)
 case atStart=>exact⟨0,by omega,rfl,bW,a0,a1,a2⟩
 case round=>
  clear a0 a1 a2 bW
  obtain⟨j,hj,rfl,bw,a0,a1,a2⟩:=hrel
  obtain⟨p,hp⟩:=Nm (j+q)
  rw[← hp] at hj
  have ep:IntKind.i64.wrap ((j:Int)+(q:Int))=(p:Int):=by rw[IntKind.wrap_i64];omega
  by_cases hlt:p<4
  ·have t3:decide ((p:Int)<4)=true:=by simp;omega
   have j0:(0:Int)≤(j:Int):=by omega
   have j1:(j:Int)<4:=by omega
   have p0:(0:Int)≤(p:Int):=by omega
   have p1:(p:Int)<4:=by omega
   have y:=a0.cell p _ (lL n p hlt)
   have hw:=hword.out j
   have hset:=wI (lim T) j OM
   have hx:=fG n p
   have hz:=fG T j
   rw[← hp] at hw
   obtain⟨x,hxe⟩:=Nm (lim n p)
   obtain⟨z,hze⟩:=Nm (lim T j)
   obtain⟨X,hX⟩:=Nm (x / 2 ^ d)
   have hXl:X<18446744073709551616:=by rw[hX];exact Nat.lt_of_le_of_lt (Nat.div_le_self _ _) OM
   rw[← hxe] at y hw
   rw[← hze] at hw hset hz
   rw[← hX] at hw
   have eX:(x:Int) / 2 ^ d=(X:Int):=by rw[hX];simp
   obtain⟨U,hU⟩:=Nm (pH (lim T) j)
   have hlen:j<U.length:=by rw[hU];show j<4;omega
   rw[← hU] at hset a2
   replace hset:=Hy hset
   replace hX:=Hy hX
   replace hxe:=Hy hxe
   replace hze:=Hy hze
   replace hU:=Hy hU
   replace hp:=Hy hp
   replace hw:=Hy hw
   clear hx
   go_upto_region 11 with ((with_reducible refine cR 92 a2 hlen .u64 (X:Int) ?_ ?_ oG ?_);rfl;rfl;intro w1 c2 f1)
   have c0:=f1.av a0 OM
   have c1:=f1.av a1 OM
   have b1:=bw.trans (f1.b (B:=w.heap.size) (fun k hk=>by rw[hk];omega) bw.size)
   clear a0 a1 a2 bw f1 y
   by_cases h3:p<3
   ·have t4:decide ((p:Int)<3)=true:=by simp;omega
    have ep1:IntKind.i64.wrap ((p:Int)+1)=((p+1:Nat):Int):=by rw[IntKind.wrap_i64];omega
    have hy:=fG n (p+1)
    have y1:=c0.cell (p+1) _ (lL n (p+1) OM)
    have y2:=c2.cell j (.int .u64 (X:Int)) (by rw[List.getElem?_set_self hlen])
    have hw:=hw.out
    obtain⟨y,hye⟩:=Nm (lim n (p+1))
    obtain⟨r,hr⟩:=Nm (p+1)
    obtain⟨Y,hY⟩:=Nm (y*2 ^ D % 18446744073709551616)
    have eY:IntKind.u64.wrap ((y:Int)*2 ^ min D 64)=(Y:Int):=by rw[Nat.min_eq_left (by rw[hD.out];omega),IntKind.wrap_u64,hY];simp
    have hor:=IK hXl (show Y<18446744073709551616 by omega)
    rw[← hye] at y1 hw
    rw[← hY] at hw
    rw[← hr] at ep1 y1
    rw[← hw] at hor
    have r0:(0:Int)≤(r:Int):=by omega
    have r1:(r:Int)<4:=by omega
    replace hY:=Hy hY
    replace hr:=Hy hr
    replace hye:=Hy hye
    clear hy hw
    go_upto_region 12 with fail
    go_still_tail 14,(by kernel_rfl)
    change wpList _ _ _ _ _ (World.drew _)
    have bd:=below_drewN (Below.refl w1.heap.size w1) 1
    rw[← World.drew_is_drewN] at bd
    generalize w1.drew=w2 at*
    replace b1:=b1.trans (bd.mono b1.size)
    replace c0:=c0.b bd
    replace c1:=c1.b bd
    replace c2:=c2.b bd
    have hlen2:j<(U.set j (.int .u64 (X:Int))).length:=by rw[List.length_set];exact hlen
    refine cR 92 c2 hlen2 .u64 (z:Int) rfl rfl oG ?_
    intro w3 g2 f3
    rw[List.set_set,hset.out] at g2
    have g0:=f3.av c0 OM
    have g1:=f3.av c1 OM
    have b3:=b1.trans (f3.b (B:=w.heap.size) (fun k hk=>by rw[hk];omega) b1.size)
    clear c0 c1 c2 b1 bd f3 y1 y2 hor eY
    go_wp2
    exact⟨⟨j+1,by have:=hp.out;omega,by go_num,b3,g0,g1,g2⟩,by simp[intOf];omega⟩
   ·have t4:decide ((p:Int)<3)=false:=by simp;omega
    have hw:=hw.out
    rw[h4.out (p+1) OM,Nat.zero_mul,Nat.zero_mod,Nat.or_zero] at hw
    rw[← hw,hset.out] at c2
    go_wp2
    exact⟨⟨j+1,by have:=hp.out;omega,by go_num,b1,c0,c1,c2⟩,by simp[intOf];omega⟩
  ·have t3:decide ((p:Int)<4)=false:=by simp;omega
   rw[show j=4 - q by omega,hf.out] at a2
   go_wp2_with (first
    |((with_reducible refine LH a2 4 SU ?_ ?_);rfl)
    |((with_reducible refine SF bw a1 hHl (uc T) 4 ?_ ?_ ?_);rfl;rfl;intro w4 a4 b4 k4 z4))
   refine bodyPost_ret (results_cell_row rfl _ _ (H+1) _ _ (0,0) _ bM a4 SU rfl KR) rfl ⟨rfl,b4⟩
theorem Om (n k:Nat) (hn:n<115792089237316195423570985008687907853269984665640564039457584007913129639936) (hk0:0<k) (hk:k<256) (w:World):
  Calls prog 119 #[.agg (uc n).toArray,.int .i64 (k:Int)] w fun e w'=>e= .returned (.tuple #[.agg (uc (n*2 ^ k % 115792089237316195423570985008687907853269984665640564039457584007913129639936)).toArray,.bool (decide (115792089237316195423570985008687907853269984665640564039457584007913129639936≤n*2 ^ k))])∧Below w.heap.size w w':=by
 obtain⟨q,d,hq,hd,rfl⟩:∃ q d,q<4∧d<64∧k=64*q+d:=⟨k / 64,k % 64,by omega,by omega,by omega⟩
 have hword:=fun j=>LK n q d j hd
 have hlow:=fun j=>IR n q d j
 have hflag:=IJ n _ hn hk
 refine Xm115 ?_;intro t1 t2 e1 e2 e3
 obtain⟨T,hT⟩:=Nm (n*2 ^ (64*q+d))
 obtain⟨N,hN⟩:=Nm (64*q+d)
 rw[← hT]
 rw[← hT] at hword hlow hflag
 rw[← hN] at t1 t2 e1 e2 hflag ⊢
 have hf:pH (lim T) 4=uc (T % 115792089237316195423570985008687907853269984665640564039457584007913129639936):=by
  have e:∀ j,j<4→lim (T % 115792089237316195423570985008687907853269984665640564039457584007913129639936) j=lim T j:=fun j hj=>by
   refine Nat.eq_of_testBit_eq fun k=>?_
   rw[iC,iC,show (115792089237316195423570985008687907853269984665640564039457584007913129639936:Nat)=2 ^ 256 from rfl,Nat.testBit_mod_two_pow]
   by_cases h:k<64
   ·simp[h];omega
   ·simp[h]
  rw[Oj,uc,e 0 OM,e 1 OM,e 2 OM,e 3 OM]
 obtain⟨Z,hZ⟩:=Nm (uc (T % 115792089237316195423570985008687907853269984665640564039457584007913129639936))
 have oZ:Hid (Z.length=4∧Z.all (·.oneCell')=true):=Hy (by rw[hZ];exact⟨rfl,rfl⟩)
 rw[← hZ] at hf ⊢
 have HL0:=PT n
 obtain⟨K,hK⟩:=Nm (sL n 4)
 have hKl:K≤256:=by rw[hK];exact(rE n 4 (Nat.div_eq_of_lt OM)).2.1
 rw[← hK] at HL0 hflag
 have HL:=Hy HL0
 obtain⟨F,hF⟩:=Nm (decide (115792089237316195423570985008687907853269984665640564039457584007913129639936≤T))
 rw[← hF]
 have e5:IntKind.i64.wrap ((K:Int)+(N:Int))=((K+N:Nat):Int):=by rw[IntKind.wrap_i64];omega
 obtain⟨KN,hKN⟩:=Nm (K+N)
 rw[← hKN] at e5 hflag
 have e6:decide ((256:Int)<(KN:Int))=F:=by rw[hF,decide_eq_decide,← hflag];omega
 refine Xm78 ?_;try clear hword e3;intro D hword e3 hD e1w W hW H hH bW a0 a1
 have a2:Av W (H+2) 151 (pH (lim T) q):=by
  refine Xm154 ?_;intro e this
  rw[hW,hH,Ej _ _ hlow]
  exact this
 have hHl:w.heap.size≤H+1:=by rw[hH];omega
 have hk1:¬ N=0:=by omega
 replace hW:=Hy hW
 replace hH:=Hy hH
 replace hN:=Hy hN
 replace hD:=Hy hD
 replace hT:=Hy hT
 replace hf:=Hy hf
 replace hword:=Hy hword
 replace hZ:=Hy hZ
 replace hF:=Hy hF
 replace hKN:=Hy hKN
 replace hK:=Hy hK
 replace e5:=Hy e5
 replace e6:=Hy e6
 clear HL0 hlow hflag
 go_enter func119,ntmps119
 go_upto_region 6 with fail
 rw[show w.heap.size+1+1=w.heap.size+2 from rfl]
 rw[← hW.out,← hH.out]
 go_upto_region 8 with fail
 go_loopw [9] (fun i wr=>∃ j:Nat,q≤j∧j≤4∧i= .int .i64 (j:Int)∧Below w.heap.size w wr∧Av wr H 151 (uc n)∧Av wr (H+1) 151 (uc 0)∧Av wr (H+2) 151 (pH (lim T) j)) (fun i _=>4 - (intOf i).toNat)
 case atStart=>exact⟨q,by omega,by omega,rfl,bW,a0,a1,a2⟩
 case round=>
  clear a0 a1 a2 bW
  obtain⟨j,hqj,hj,rfl,bw,a0,a1,a2⟩:=hrel
  by_cases hlt:j<4
  ·obtain⟨p,hp⟩:=Nm (j - q)
   have ep:IntKind.i64.wrap ((j:Int) - (q:Int))=(p:Int):=by rw[IntKind.wrap_i64];omega
   have t3:decide ((j:Int)<4)=true:=by simp;omega
   have j0:(0:Int)≤(j:Int):=by omega
   have j1:(j:Int)<4:=by omega
   have p0:(0:Int)≤(p:Int):=by omega
   have p1:(p:Int)<4:=by omega
   have y:=a0.cell p _ (lL n p OM)
   have hw:=hword.out j hqj
   have hset:=wI (lim T) j hlt
   have hz:=fG T j
   rw[← hp] at hw
   obtain⟨x,hxe⟩:=Nm (lim n p)
   obtain⟨z,hze⟩:=Nm (lim T j)
   obtain⟨X,hX⟩:=Nm (x*2 ^ d % 18446744073709551616)
   have hXl:X<18446744073709551616:=by omega
   rw[← hxe] at y hw
   rw[← hze] at hw hset hz
   rw[← hX] at hw
   have eX:IntKind.u64.wrap ((x:Int)*2 ^ d)=(X:Int):=by rw[IntKind.wrap_u64,hX];simp
   obtain⟨U,hU⟩:=Nm (pH (lim T) j)
   have hlen:j<U.length:=by rw[hU];show j<4;omega
   rw[← hU] at hset a2
   replace hset:=Hy hset
   replace hX:=Hy hX
   replace hxe:=Hy hxe
   replace hze:=Hy hze
   replace hU:=Hy hU
   replace hp:=Hy hp
   replace hw:=Hy hw
   go_upto_region 11 with ((with_reducible refine cR 92 a2 hlen .u64 (X:Int) ?_ ?_ oG ?_);rfl;rfl;intro w1 c2 f1)
   have c0:=f1.av a0 OM
   have c1:=f1.av a1 OM
   have b1:=bw.trans (f1.b (B:=w.heap.size) (fun k hk=>by rw[hk];omega) bw.size)
   clear a0 a1 a2 bw f1 y
   by_cases h3:q<j
   ·have t4:decide ((q:Int)<(j:Int))=true:=by simp;omega
    obtain⟨r,hr⟩:=Nm (p - 1)
    have ep1:IntKind.i64.wrap ((p:Int) - 1)=(r:Int):=by have:=hp.out;rw[IntKind.wrap_i64];omega
    have hy:=fG n r
    have y1:=c0.cell r _ (lL n r OM)
    have y2:=c2.cell j (.int .u64 (X:Int)) (by rw[List.getElem?_set_self hlen])
    have hw:=hw.out
    rw[if_pos h3,← hr] at hw
    obtain⟨y,hye⟩:=Nm (lim n r)
    obtain⟨Y,hY⟩:=Nm (y / 2 ^ D)
    have hYl:Y<18446744073709551616:=by rw[hY];exact Nat.lt_of_le_of_lt (Nat.div_le_self _ _) OM
    have eY:(y:Int) / 2 ^ min D 64=(Y:Int):=by rw[Nat.min_eq_left (by rw[hD.out];omega),hY];simp
    have hor:=IK hXl hYl
    rw[← hye] at y1 hw
    rw[← hY] at hw
    rw[← hw] at hor
    have r0:(0:Int)≤(r:Int):=by omega
    have r1:(r:Int)<4:=by omega
    replace hY:=Hy hY
    replace hr:=Hy hr
    replace hye:=Hy hye
    clear hy hw
    go_upto_region 12 with fail
    go_still_tail 14,(by kernel_rfl)
    change wpList _ _ _ _ _ (World.drew _)
    have bd:=below_drewN (Below.refl w1.heap.size w1) 1
    rw[← World.drew_is_drewN] at bd
    generalize w1.drew=w2 at*
    replace b1:=b1.trans (bd.mono b1.size)
    replace c0:=c0.b bd
    replace c1:=c1.b bd
    replace c2:=c2.b bd
    have hlen2:j<(U.set j (.int .u64 (X:Int))).length:=by rw[List.length_set];exact hlen
    refine cR 92 c2 hlen2 .u64 (z:Int) rfl rfl oG ?_
    intro w3 g2 f3
    rw[List.set_set,hset.out] at g2
    have g0:=f3.av c0 OM
    have g1:=f3.av c1 OM
    have b3:=b1.trans (f3.b (B:=w.heap.size) (fun k hk=>by rw[hk];omega) b1.size)
    clear c0 c1 c2 b1 bd f3 y1 y2 hor eY
    go_wp2
    exact⟨⟨j+1,by omega,by omega,by go_num,b3,g0,g1,g2⟩,by simp[intOf];omega⟩
   ·have t4:decide ((q:Int)<(j:Int))=false:=by simp;omega
    have hw:=hw.out
    rw[if_neg h3,Nat.or_zero] at hw
    rw[← hw,hset.out] at c2
    go_wp2
    exact⟨⟨j+1,by omega,by omega,by go_num,b1,c0,c1,c2⟩,by simp[intOf];omega⟩
  ·have t3:decide ((j:Int)<4)=false:=by simp;omega
   rw[show j=4 by omega,hf.out] at a2
   go_upto_region 13 with fail
   refine eH 7 [] [(6,fun w'=>Av w' (H+1) 151 Z)] (RS (H+1) 151 Z) KR KR KR KR KR KR (fun w=>RS.refl w) RS.trans zI (by
    intro p hp w w' hR h
    simp only[List.mem_singleton] at hp
    subst hp
    exact hR.2.1 h) ?_
   refine rU (fun w=>RS.refl w) rfl (cT (fun w=>RS.refl w) rfl rfl rfl rfl (c:=.agg Z.toArray) (fun w hw=>aE (l:=Z) (hw.1.av a2.drew OM) _ _ rfl rfl _ 4 oZ.out.1 SU rfl KR) zZ (jC ?_))
   refine rU (fun w=>RS.refl w) rfl (cT (fun w=>RS.refl w) rfl rfl rfl rfl (c:=.agg (uc n).toArray) (fun w hw=>aE (l:=uc n) (hw.1.av a0.drew OM) _ _ rfl rfl _ 4 rfl SU rfl KR) zZ (jC ?_))
   refine rU (fun w=>RS.refl w) rfl (tA rfl rfl rfl rfl (c:=.int .i64 (K:Int)) 120 #[.agg (uc n).toArray] (fun w=>by go_simp) (fun w hw=>(HL.out w).mono (by rintro e w' ⟨rfl,hb⟩;exact⟨rfl,RS.ofBelow hb⟩)) zZ (jC ?_))
   repeat refine rU (fun w=>RS.refl w) rfl (cT (fun w=>RS.refl w) rfl rfl rfl rfl (fun w hw=>by have:=e5.out;have:=e6.out;exact zG) zZ (jC ?_))
   refine pJ rfl rfl (fun w hw=>fY (C:=Z) a1.drew (by rw[oZ.out.1];rfl) hw _ _ _ rfl rfl rfl 4 oZ.out.1 KR oZ.out.2 6) ?_
   refine mG fun w5 hw5 hg=>?_
   simp only[List.drop_succ_cons,List.drop_zero]
   have a5:=hg (6,fun w'=>Av w' (H+1) 151 Z) (List.mem_singleton.2 rfl)
   have f5:=Fr.ofDrew hw5.1
   have b5:=bw.trans (f5.b (B:=w.heap.size) (fun k hk=>by rw[hk];omega) bw.size)
   go_wp2
   exact bodyPost_ret (v:=.tuple #[.agg Z.toArray,.bool F]) ((aK (C:=Z) bM bM a5 _ SU rfl 4 oZ.out.1 KR).trans bM) bM ⟨rfl,b5⟩
theorem On (n:Nat) (w:World):
  Calls prog 119 #[.agg (uc n).toArray,.int .i64 0] w fun e w'=>e= .returned (.tuple #[.agg (uc n).toArray,.bool false])∧Below w.heap.size w w':=by
 obtain⟨W,hW⟩:=Nm ((w.alloc (.cells (uc n).toArray 151)).alloc (.cells #[.int .u64 0,.int .u64 0,.int .u64 0,.int .u64 0] 151))
 obtain⟨H,hH⟩:=Nm (w.heap.size)
 refine Xm82 ?_;intro bW
 have aW:Av W H 151 (uc n):=by rw[hW,hH];exact heap_alloc2_old _ _ _
 have rW:Av W (H+1) 151 [.int .u64 0,.int .u64 0,.int .u64 0,.int .u64 0]:=by rw[hW,hH];exact heap_alloc2_new _ _ _
 have hH1:w.heap.size≤H+1:=by rw[hH];omega
 replace hW:=Hy hW
 replace hH:=Hy hH
 go_enter func119,ntmps119
 go_upto_region 1 with fail
 rw[← hW.out,← hH.out]
 go_wp2_with (first
  |((with_reducible refine LH aW 4 SU ?_ ?_);rfl)
  |((with_reducible refine SF bW rW hH1 (uc n) 4 ?_ ?_ ?_);rfl;rfl;intro w6 a6 b6 k6 z6))
 refine bodyPost_ret (v:=.tuple #[.agg (uc n).toArray,.bool false]) ((aK (C:=uc n) bM bM a6 _ SU rfl 4 rfl KR).trans bM) bM ?_
 exact⟨rfl,b6⟩
theorem Oo (n k:Nat) (hn:n<115792089237316195423570985008687907853269984665640564039457584007913129639936) (hk:256≤k) (w:World):
  Calls prog 119 #[.agg (uc n).toArray,.int .i64 (k:Int)] w fun e w'=>e= .returned (.tuple #[.agg (fS 0 0 0 0).toArray,.bool (!decide (n=0))])∧Below w.heap.size w w':=by
 obtain⟨W,hW⟩:=Nm ((w.alloc (.cells (uc n).toArray 151)).alloc (.cells #[.int .u64 0,.int .u64 0,.int .u64 0,.int .u64 0] 151))
 obtain⟨H,hH⟩:=Nm (w.heap.size)
 have bW:Below H w W:=by rw[hW,hH];exact((Below.refl _ _).alloc LR _).alloc zS _
 have aW:Av W H 151 (uc n):=by rw[hW,hH];exact heap_alloc2_old _ _ _
 have rW:Av W (H+1) 151 (fS 0 0 0 0):=by rw[hW,hH];exact heap_alloc2_new _ _ _
 have t1:decide ((k:Int)≤0)=false:=by simp;omega
 have t2:decide ((256:Int)≤(k:Int))=true:=by simp;omega
 have N1:=fun x y w=>PY (lim n 0) (lim n 1) (lim n 2) (lim n 3) 0 0 0 0 x y w
 rw[show decide (lim n 0=0∧lim n 1=0∧lim n 2=0∧lim n 3=0)=decide (n=0) from decide_eq_decide.2 ⟨fun ⟨e0,e1,e2,e3⟩=>by rw[vU hn,e0,e1,e2,e3],fun e=>by subst e;decide⟩,show fS (lim n 0) (lim n 1) (lim n 2) (lim n 3)=uc n from rfl] at N1
 replace N1:=Hy N1
 have hHs:H≤W.heap.size:=Nat.le_of_lt aW.lt
 replace hW:=Hy hW
 replace hH:=Hy hH
 go_enter func119,ntmps119
 go_upto_region 1 with fail
 rw[← hW.out,← hH.out]
 go_wp2_with fail
 refine eH 5 [] [(4,fun w'=>Av w' (H+1) 151 (fS 0 0 0 0))] (RS (H+1) 151 (fS 0 0 0 0)) KR KR KR KR KR KR (fun w=>RS.refl w) RS.trans zI (by
  intro p hp w w' hR h
  simp only[List.mem_singleton] at hp
  subst hp
  exact hR.2.1 h) ?_
 refine rU (fun w=>RS.refl w) rfl (cT (fun w=>RS.refl w) rfl rfl rfl rfl (c:=.agg (fS 0 0 0 0).toArray) vR zZ (jC ?_))
 refine rU (fun w=>RS.refl w) rfl (cT (fun w=>RS.refl w) rfl rfl rfl rfl (c:=.agg (uc n).toArray) (fun w hw=>aE (l:=uc n) (hw.1.av aW.drew OM) _ _ rfl rfl _ 4 rfl SU rfl KR) zZ (jC ?_))
 refine rU (fun w=>RS.refl w) rfl (cT (fun w=>RS.refl w) rfl rfl rfl rfl (c:=.agg (fS 0 0 0 0).toArray) vR zZ (jC ?_))
 refine rU (fun w=>RS.refl w) rfl (jN (fun w=>RS.refl w) rfl rfl rfl rfl _ _ _ _ _ rfl pB pB (c:=.bool (!decide (n=0))) (fun w=>N1.out _ _ w) zZ (jC ?_))
 refine pJ rfl rfl (fun w hw=>fY (C:=fS 0 0 0 0) rW.drew rfl hw _ _ _ rfl rfl rfl 4 rfl KR rfl 4) ?_
 refine mG fun w5 hw5 hg=>?_
 simp only[List.drop_succ_cons,List.drop_zero]
 have a5:=hg (4,fun w'=>Av w' (H+1) 151 (fS 0 0 0 0)) (List.mem_singleton.2 rfl)
 have f5:=Fr.ofDrew hw5.1
 have b5:=bW.trans (f5.b (B:=H) (fun k hk=>by omega) hHs)
 go_wp2
 refine bodyPost_ret (v:=.tuple #[.agg (fS 0 0 0 0).toArray,.bool (!decide (n=0))]) ((aK (C:=fS 0 0 0 0) bM bM a5 _ SU rfl 4 rfl KR).trans bM) bM ?_
 exact⟨rfl,by rw[← hH.out];exact b5⟩
theorem Rl (n k:Nat) (hn:n<115792089237316195423570985008687907853269984665640564039457584007913129639936) (w:World):
  Calls prog 119 #[.agg (uc n).toArray,.int .i64 (k:Int)] w fun e w'=>e= .returned (.tuple #[.agg (uc (n*2 ^ k % 115792089237316195423570985008687907853269984665640564039457584007913129639936)).toArray,.bool (decide (115792089237316195423570985008687907853269984665640564039457584007913129639936≤n*2 ^ k))])∧Below w.heap.size w w':=by
 by_cases h0:k=0
 ·subst h0
  rw[Nat.pow_zero,Nat.mul_one,Nat.mod_eq_of_lt hn,decide_eq_false (Nat.not_le.2 hn)]
  exact On n w
 ·by_cases hk:k<256
  ·exact Om n k hn OM hk w
  ·have e:n*2 ^ k % 115792089237316195423570985008687907853269984665640564039457584007913129639936=0:=by
    rw[show k=256+(k - 256) by omega,Nat.pow_add,Nat.mul_left_comm,show (2:Nat) ^ 256=115792089237316195423570985008687907853269984665640564039457584007913129639936 from rfl]
    exact Nat.mul_mod_right _ _
   have e2:decide (115792089237316195423570985008687907853269984665640564039457584007913129639936≤n*2 ^ k)= !decide (n=0):=by
    by_cases h:n=0
    ·subst h;simp
    ·have:=Nat.mul_le_mul (show 1≤n by omega) (Nat.pow_le_pow_right (show 0<2 by omega) (show 256≤k by omega))
     rw[decide_eq_true (show 115792089237316195423570985008687907853269984665640564039457584007913129639936≤n*2 ^ k by omega),decide_eq_false h]
     rfl
   rw[e,e2,qJ (show 0<18446744073709551616 by omega)]
   exact Oo n k hn OM w
open Go.RowKit
def lP (b:Nat):Option Nat:=
 if b % 8388608=0 then none
 else if b / 8388608 % 2=1 then none
 else if b / 16777216<3 then (if b % 8388608 / 2 ^ (8*(3 - b / 16777216))=0 then none else some (b % 8388608 / 2 ^ (8*(3 - b / 16777216))))
 else if 115792089237316195423570985008687907853269984665640564039457584007913129639936≤b % 8388608*2 ^ (8*(b / 16777216 - 3)) then none
 else some (b % 8388608*2 ^ (8*(b / 16777216 - 3)))
theorem LV {b t:Nat} (h:lP b=some t):t<115792089237316195423570985008687907853269984665640564039457584007913129639936∧0<t:=by
 unfold lP at h
 split at h
 ·cases h
 ·split at h
  ·cases h
  ·split at h
   ·split at h
    ·cases h
    ·rename_i h1
     injection h with h
     subst h
     refine⟨?_,Nat.pos_of_ne_zero h1⟩
     exact Nat.lt_of_le_of_lt (Nat.div_le_self _ _) OM
   ·split at h
    ·cases h
    ·rename_i h0 _ _ h1
     injection h with h
     subst h
     refine⟨by omega,?_⟩
     exact Nat.mul_pos OM (Nat.pow_pos OM)
theorem vX:uc 0=fS 0 0 0 0:=qJ OM
theorem PZ (n:Nat) (x y:Operand) (w:World) (hn:n<115792089237316195423570985008687907853269984665640564039457584007913129639936):(do eqGuard .eql 151 x y (.agg (uc n).toArray) (.agg (fS 0 0 0 0).toArray);binOp .eql 151 (.agg (uc n).toArray) (.agg (fS 0 0 0 0).toArray):Sem Value).run prog w= .ok (.bool (decide (n=0))) w:=by
 unfold uc
 rw[PX]
 congr 2
 rw[decide_eq_decide]
 constructor
 ·rintro⟨h0,h1,h2,h3⟩
  rw[vU hn,h0,h1,h2,h3]
 ·rintro rfl
  exact uL OM
def wL (b:Nat):Value:=match lP b with
 |some t=>.tuple #[.agg (uc t).toArray,.int .i64 0]
 |none=>.tuple #[.agg (uc 0).toArray,.int .i64 7]
theorem jT {b:Nat} (h:lP b=none):wL b= .tuple #[.agg (uc 0).toArray,.int .i64 7]:=by rw[wL,h]
theorem oJ {b t:Nat} (h:lP b=some t):wL b= .tuple #[.agg (uc t).toArray,.int .i64 0]:=by rw[wL,h]
theorem Xc139 {p:Prop} (h:p:=by
 refine bodyPost_ret (v:=.tuple #[.agg (uc 0).toArray,.int .i64 7]) ((aK (C:=uc 0) bM bM a6 _ SU rfl 4 rfl KR).trans bM) bM ⟨by rw[hX.out],by rw[← hH.out];exact b6⟩):p:=h
theorem Xm127 {p q:Prop} (k:q) (h:Hid q→p:=by
 intro hk
 obtain⟨W,hW⟩:=Nm (w.alloc (.cells #[.int .u64 0,.int .u64 0,.int .u64 0,.int .u64 0] 151))
 obtain⟨H,hH⟩:=Nm (w.heap.size)
 have bW:Below H w W:=by rw[hW,hH];exact(Below.refl _ _).alloc LR _
 revert W hW H hH bW;exact hk.out):p:=h (Hy k)
theorem Xm122 {p q:Prop} (k:q) (h:Hid q→p:=by
 intro hk
 have q3:bits .and .u32 (b:Int) 8388607=(M:Int):=by
  have:=(bits_nat .u32 32 DC wraps_u32 b 8388607 OM OM).1
  rw[show b &&& 8388607=b % 8388608 from Nat.and_two_pow_sub_one_eq_mod _ 23,← hM] at this
  simpa using this
 have q4:IntKind.i64.wrap (E:Int)=(E:Int):=by rw[IntKind.wrap_i64];omega
 have q5:IntKind.u64.wrap (M:Int)=(M:Int):=by rw[IntKind.wrap_u64];omega
 revert q3 q4 q5;exact hk.out):p:=h (Hy k)
theorem Xc28 {p:Prop} (h:p:=by
 cases D
 ·go_wp2_with (first
   |((with_reducible refine LG a4 4 SU ?_ ?_ ?_);rfl;rfl)
   |((with_reducible refine dF (op:=.eql) (ty:=151) ?_ ?_ ?_ (HZ.out _ _ w4) ?_);rfl;rfl;rfl)
   |((with_reducible refine LH a4 4 SU ?_ ?_);rfl)
   |((with_reducible refine SF b4 r4 LR (uc V) 4 ?_ ?_ ?_);rfl;rfl;intro w6 a6 b6 k6 z6;clear k6;replace z6:=Hy z6))
  exact bodyPost_ret (v:=.tuple #[.agg (uc V).toArray,.int .i64 0]) ((aK (C:=uc V) bM bM a6 _ SU rfl 4 rfl KR).trans bM) bM ⟨by rw[hX.out,if_neg fun h=>h.elim (fun h=>by cases h) (of_decide_eq_false hD.out.symm)],by rw[← hH.out];exact b6⟩
 ·go_wp2_with (first
   |((with_reducible refine LG a4 4 SU ?_ ?_ ?_);rfl;rfl)
   |((with_reducible refine dF (op:=.eql) (ty:=151) ?_ ?_ ?_ (HZ.out _ _ w4) ?_);rfl;rfl;rfl)
   |((with_reducible refine dR 151 b4 r4 LR (uc 0) ?_ ?_ 4 ?_ ?_ ?_ ?_ ?_);rfl;exact congrArg Value.agg zc.out;rfl;kernel_rfl;rfl;rfl;intro w6 a6 b6 k6 z6;clear k6;replace z6:=Hy z6))
  exact bodyPost_ret (v:=.tuple #[.agg (uc 0).toArray,.int .i64 7]) ((aK (C:=uc 0) bM bM a6 _ SU rfl 4 rfl KR).trans bM) bM ⟨by rw[hX.out,if_pos (.inr (of_decide_eq_true hD.out.symm))],by rw[← hH.out];exact b6⟩):p:=h
theorem Qa (b:Nat) (hb:b<4294967296) (w:World):Calls prog 84 #[.int .u32 (b:Int)] w fun e w'=>e= .returned (wL b)∧Below w.heap.size w w':=by
 obtain⟨E,hE⟩:=Nm (b / 16777216)
 obtain⟨s,hs⟩:=Nm (b / 8388608 % 2)
 obtain⟨M,hM⟩:=Nm (b % 8388608)
 have hMl:M<8388608:=by omega
 have hEl:E<256:=by omega
 have q1:(b:Int) / 16777216=(E:Int):=by omega
 have q2:bits .and .u32 ((b:Int) / 8388608) 1=(s:Int):=by
  have:=(bits_nat .u32 32 DC wraps_u32 (b / 8388608) 1 OM OM).1
  rw[show b / 8388608 &&& 1=b / 8388608 % 2 from Nat.and_two_pow_sub_one_eq_mod _ 1,← hs] at this
  simpa using this
 refine Xm122 ?_;intro q3 q4 q5
 refine Xm127 ?_;intro W hW H hH bW
 have rW:Av W H 151 (uc 0):=by rw[hW,hH,LU];exact heap_alloc_new _ _
 have zc: #[Value.int .u64 0,.int .u64 0,.int .u64 0,.int .u64 0]=(uc 0).toArray:=by rw[LU]
 replace hW:=Hy hW
 replace hH:=Hy hH
 replace zc:=Hy zc
 obtain⟨X,hX⟩:=Nm (wL b)
 rw[← hX]
 unfold wL lP at hX
 rw[← hM,← hE,← hs] at hX
 by_cases h0:M≠0∧s=1
 ·have t1:((M:Int)!=0)=true:=by simp;omega
  have t2:((s:Int)==1)=true:=by simp;omega
  rw[if_neg h0.1,if_pos h0.2] at hX
  replace hX:=Hy hX
  clear hE hs hM h0
  go_enter func84,ntmps84
  go_upto_region 1 with fail
  rw[← hW.out,← hH.out]
  go_wp2_with ((with_reducible refine dR 151 bW rW LR (uc 0) ?_ ?_ 4 ?_ ?_ ?_ ?_ ?_);rfl;exact congrArg Value.agg zc.out;rfl;kernel_rfl;rfl;rfl;intro w6 a6 b6 k6 z6;clear k6;replace z6:=Hy z6)
  exact Xc139
 ·obtain⟨Z,hZ⟩:=Nm (((M:Int)!=0))
  have t1:((M:Int)!=0)=Z:=hZ.symm
  have t2:Z=true→((s:Int)==1)=false:=fun h=>by
   rw[hZ] at h
   simp at h ⊢
   omega
  obtain⟨j,hj⟩:=Nm (if E<3 then 8*(3 - E) else 8*(E - 3))
  have HO:=Sf M OM
  replace hZ:=Hy hZ
  replace HO:=Hy HO
  have hX:∃ V o,V<115792089237316195423570985008687907853269984665640564039457584007913129639936∧V=(if E<3 then M / 2 ^ j else M*2 ^ j % 115792089237316195423570985008687907853269984665640564039457584007913129639936)∧o=(if E<3 then false else decide (115792089237316195423570985008687907853269984665640564039457584007913129639936≤M*2 ^ j))∧X=if o=true∨V=0 then .tuple #[.agg (uc 0).toArray,.int .i64 7] else .tuple #[.agg (uc V).toArray,.int .i64 0]:=by
   refine⟨_,_,?_,rfl,rfl,?_⟩
   ·split
    ·exact Nat.lt_of_le_of_lt (Nat.div_le_self _ _) OM
    ·exact Nat.mod_lt _ OM
   ·rw[hX,hj]
    by_cases hM0:M=0
    ·rw[if_pos hM0,if_pos (.inr (by rw[hM0];split <;> simp))]
    ·rw[if_neg hM0,if_neg fun h=>h0 ⟨hM0,h⟩]
     by_cases h2:E<3
     ·simp only[if_pos h2,Bool.false_eq_true,false_or]
      by_cases c:M / 2 ^ (8*(3 - E))=0
      ·rw[if_pos c,if_pos c]
      ·rw[if_neg c,if_neg c]
     ·have:0<M*2 ^ (8*(E - 3)):=Nat.mul_pos OM (Nat.pow_pos OM)
      simp only[if_neg h2,decide_eq_true_eq]
      by_cases c:115792089237316195423570985008687907853269984665640564039457584007913129639936≤M*2 ^ (8*(E - 3))
      ·rw[if_pos c,if_pos (.inl c)]
      ·rw[if_neg c,Nat.mod_eq_of_lt OM,if_neg OM]
  obtain⟨V,o,hVl,hV,ho,hX⟩:=hX
  replace hX:=Hy hX
  have HZ0:=fun x y w=>PZ V x y w hVl
  obtain⟨D,hD⟩:=Nm (decide (V=0))
  rw[← hD] at HZ0
  have HZ:=Hy HZ0
  replace hD:=Hy hD
  clear HZ0
  clear hE hs hM h0 hb
  cases Z
  all_goals
   first|replace t2:=t2 rfl|clear t2
   go_enter func84,ntmps84
   go_upto_region 1 with fail
   rw[← hW.out,← hH.out]
   go_upto_region 5 with (first
    |(go_at_call 85;refine(HO.out W).mono ?_;rintro e w1 ⟨rfl,b1⟩)
    |((with_reducible refine SN (uc M) 4 ?_ ?_ ?_);rfl;rfl;intro w2 a2 b2 k2 z2;clear k2;replace z2:=Hy z2))
   obtain⟨G,hG0⟩:=Nm (w1.heap.size)
   rw[← hG0] at a2 ⊢
   have c2:Below H w w2:=(bW.trans (b1.mono (Nat.le_of_lt rW.lt))).trans ((b2).mono (Nat.le_trans (Nat.le_of_lt rW.lt) b1.size))
   have r2:=(rW.b b1).b b2
   have hGH:H<G:=by rw[hG0];exact Nat.lt_of_lt_of_le rW.lt b1.size
   replace hG0:=Hy hG0
   have hGe:H≤G:=Nat.le_of_lt hGH
   by_cases h2:E<3
   ·have t4:decide ((E:Int)<3)=true:=by simp;omega
    rw[if_pos h2] at hV ho hj
    have q6:IntKind.i64.wrap (3 - (E:Int))=3 - (E:Int):=by rw[IntKind.wrap_i64];omega
    have q7:IntKind.i64.wrap (8*(3 - (E:Int)))=(j:Int):=by rw[IntKind.wrap_i64];omega
    have HS:=Rk M j OM OM OM
    rw[← hV] at HS
    replace HS:=Hy HS
    replace hV:=Hy hV
    replace hj:=Hy hj
    subst ho
    go_upto_region 8 with (first
     |((with_reducible refine LH a2 4 SU ?_ ?_);rfl)
     |(go_at_call 118;refine(HS.out w2).mono ?_;rintro e w3 ⟨rfl,b3⟩;have c3:=c2.trans (b3.mono (Nat.le_of_lt r2.lt));have a3:=a2.b b3)
     |((with_reducible refine SF c3 a3 hGe (uc V) 4 ?_ ?_ ?_);rfl;rfl;intro w4 a4 b4 k4 z4;replace z4:=Hy z4))
    have r4:Av w4 H 151 (uc 0):=(r2.b b3).same (k4 _ (Nat.ne_of_lt hGH))
    clear b3 a3 c3
    exact Xc28
   ·have t4:decide ((E:Int)<3)=false:=by simp;omega
    rw[if_neg h2] at hV ho hj
    have q6:IntKind.i64.wrap ((E:Int) - 3)=(E:Int) - 3:=by rw[IntKind.wrap_i64];omega
    have q7:IntKind.i64.wrap (8*((E:Int) - 3))=(j:Int):=by rw[IntKind.wrap_i64];omega
    have HS:=Rl M j OM
    rw[← hV,← ho] at HS
    replace HS:=Hy HS
    replace hV:=Hy hV
    replace ho:=Hy ho
    replace hj:=Hy hj
    go_upto_region 8 with (first
     |((with_reducible refine LH a2 4 SU ?_ ?_);rfl)
     |(go_at_call 119;refine(HS.out w2).mono ?_;rintro e w3 ⟨rfl,b3⟩;have c3:=c2.trans (b3.mono (Nat.le_of_lt r2.lt));have a3:=a2.b b3)
     |((with_reducible refine SF c3 a3 hGe (uc V) 4 ?_ ?_ ?_);rfl;rfl;intro w4 a4 b4 k4 z4;replace z4:=Hy z4))
    have r4:Av w4 H 151 (uc 0):=(r2.b b3).same (k4 _ (Nat.ne_of_lt hGH))
    clear b3 a3 c3
    cases o
    ·exact Xc28
    ·have hX2:=hX.out
     rw[if_pos (.inl rfl)] at hX2
     replace hX:=Hy hX2
     clear hX2
     go_wp2_with ((with_reducible refine dR 151 b4 r4 LR (uc 0) ?_ ?_ 4 ?_ ?_ ?_ ?_ ?_);rfl;exact congrArg Value.agg zc.out;rfl;kernel_rfl;rfl;rfl;intro w6 a6 b6 k6 z6;clear k6;replace z6:=Hy z6)
     exact Xc139
theorem GH (x y c:Nat) (hc:c≤1) (w:World):(callFunc 88 #[.int .u64 (x:Int),.int .u64 (y:Int),.int .u64 (c:Int)]).run prog w= .ok (.value (.tuple #[.int .u64 (((x+y+c) % 18446744073709551616:Nat):Int),.int .u64 (((x+y+c) / 18446744073709551616:Nat):Int)])) w:=by
 rw[run_callFunc_extern func88 KR KR KR (e:=add64Entry) KR,run_add64 x y c OM OM OM OM]
 simp only[Result.andThen]
 congr 5 <;> omega
def IU:Array Value→Sem Value:=fun args=>do
 let (x,y,b) ← Extern.MathBitsCarry.three "Sub64" args
 pure (Extern.MathBitsCarry.pair ((x+Extern.MathBitsCarry.m64 - y - b) % Extern.MathBitsCarry.m64) (if x<y+b then 1 else 0))
theorem GI (x y b:Nat) (hb:b≤1) (w:World):(callFunc 137 #[.int .u64 (x:Int),.int .u64 (y:Int),.int .u64 (b:Int)]).run prog w= .ok (.value (.tuple #[.int .u64 (((x+18446744073709551616 - y - b) % 18446744073709551616:Nat):Int),.int .u64 ((if x<y+b then 1 else 0:Nat):Int)])) w:=by
 have h:(IU #[.int .u64 x,.int .u64 y,.int .u64 b]).run prog w= .ok (.tuple #[.int .u64 (((x+18446744073709551616 - y - b) % 18446744073709551616:Nat):Int),.int .u64 ((if x<y+b then 1 else 0:Nat):Int)]) w:=by
  have:b=0∨b=1:=by omega
  rcases this with rfl|rfl <;> rfl
 rw[run_callFunc_extern func137 KR KR KR (e:=IU) KR,h]
 rfl
def uY (B n m k:Nat):Nat:=(n % B ^ k+m % B ^ k) / B ^ k
theorem tD (B n m k:Nat) (hB:0<B):n / B ^ k % B+m / B ^ k % B+uY B n m k=(n+m) / B ^ k % B+B*uY B n m (k+1)∧uY B n m k≤1:=by
 have hP:0<B ^ k:=Nat.pow_pos hB
 unfold uY
 rw[Nat.pow_succ]
 generalize B ^ k=P at*
 have h1:=Nat.mod_lt n hP
 have h2:=Nat.mod_lt m hP
 have e1:(n+m) / P=n / P+m / P+(n % P+m % P) / P:=by
  have a:=Nat.div_add_mod n P
  have b:=Nat.div_add_mod m P
  rw[show n+m=(n % P+m % P)+P*(n / P+m / P) by rw[Nat.mul_add];omega,Nat.add_mul_div_left _ _ hP]
  omega
 have e2:(n % (P*B)+m % (P*B)) / (P*B)=((n % P+m % P) / P+(n / P % B+m / P % B)) / B:=by
  rw[Nat.mod_mul,Nat.mod_mul,← Nat.div_div_eq_div_mul,show n % P+P*(n / P % B)+(m % P+P*(m / P % B))=(n % P+m % P)+P*(n / P % B+m / P % B) by rw[Nat.mul_add];omega,Nat.add_mul_div_left _ _ hP]
 have h3:(n % P+m % P) / P≤1:=by
  have:=(Nat.div_lt_iff_lt_mul hP (x:=n % P+m % P) (y:=2)).2 OM
  omega
 rw[e1,e2]
 generalize (n % P+m % P) / P=c at*
 refine⟨?_,h3⟩
 rw[Nat.add_mod,Nat.add_mod (n / P),Nat.mod_add_mod,Nat.add_mod_mod,show c+(n / P % B+m / P % B)=n / P % B+m / P % B+c by omega,Nat.mod_add_div]
theorem FH (B n m:Nat):uY B n m 0=0:=by simp[uY,Nat.mod_one]
theorem Bd (B n m k:Nat) (hn:n<B ^ k) (hm:m<B ^ k):uY B n m k=(n+m) / B ^ k:=by rw[uY,Nat.mod_eq_of_lt hn,Nat.mod_eq_of_lt hm]
theorem FI (T j:Nat) (hj:j<4):lim (T % 115792089237316195423570985008687907853269984665640564039457584007913129639936) j=lim T j:=by
 refine Nat.eq_of_testBit_eq fun k=>?_
 rw[iC,iC,show (115792089237316195423570985008687907853269984665640564039457584007913129639936:Nat)=2 ^ 256 from rfl,Nat.testBit_mod_two_pow]
 by_cases h:k<64
 ·simp[h];omega
 ·simp[h]
theorem Ek (n m k:Nat):lim n k+lim m k+uY 18446744073709551616 n m k=lim (n+m) k+18446744073709551616*uY 18446744073709551616 n m (k+1)∧uY 18446744073709551616 n m k≤1:=tD _ n m k OM
theorem Xm80 {p q:Prop} (k:q) (h:Hid q→p:=by
 intro hk
 obtain⟨H,hH⟩:=Nm (w.heap.size)
 have e:∀ (v:World) (o:Obj),(v.alloc o).heap.size=v.heap.size+1:=fun v o=>by simp
 have bW:Below w.heap.size w W:=by rw[hW];exact((((Below.refl _ _).alloc LR _).alloc zS _).alloc zU _).alloc zU _
 revert H hH e bW;exact hk.out):p:=h (Hy k)
theorem FK (n m:Nat) (hn:n<115792089237316195423570985008687907853269984665640564039457584007913129639936) (hm:m<115792089237316195423570985008687907853269984665640564039457584007913129639936):
  (∀ w,Calls prog 60 #[.agg (uc n).toArray,.agg (uc m).toArray] w fun e w'=>e= .returned (.tuple #[.agg (uc ((n+m) % 115792089237316195423570985008687907853269984665640564039457584007913129639936)).toArray,.bool (decide (115792089237316195423570985008687907853269984665640564039457584007913129639936≤n+m))])∧Below w.heap.size w w')∧
  ∀ w,Calls prog 122 #[.agg (uc n).toArray,.agg (uc m).toArray] w fun e w'=>e= .returned (.tuple #[.agg (uc ((n+115792089237316195423570985008687907853269984665640564039457584007913129639936 - m) % 115792089237316195423570985008687907853269984665640564039457584007913129639936)).toArray,.bool (decide (n<m))])∧Below w.heap.size w w':=by
 obtain⟨T,hT⟩:=Nm ((n+115792089237316195423570985008687907853269984665640564039457584007913129639936 - m) % 115792089237316195423570985008687907853269984665640564039457584007913129639936)
 obtain⟨S,hS⟩:=Nm ((n+m) % 115792089237316195423570985008687907853269984665640564039457584007913129639936)
 have hTl:T<115792089237316195423570985008687907853269984665640564039457584007913129639936:=by omega
 rw[← hT,← hS]
 have LA:∀ k,k<4→ ∀ w,(callFunc 88 #[.int .u64 (lim n k:Int),.int .u64 (lim m k:Int),.int .u64 (uY 18446744073709551616 n m k:Int)]).run prog w= .ok (.value (.tuple #[.int .u64 (lim S k:Int),.int .u64 (uY 18446744073709551616 n m (k+1):Int)])) w:=fun k hk w=>by
  obtain⟨a,b⟩:=Ek n m k
  have:=fG (n+m) k
  rw[GH _ _ _ b,hS,FI _ _ hk,a]
  have e1:(lim (n+m) k+18446744073709551616*uY 18446744073709551616 n m (k+1)) % 18446744073709551616=lim (n+m) k:=by omega
  have e2:(lim (n+m) k+18446744073709551616*uY 18446744073709551616 n m (k+1)) / 18446744073709551616=uY 18446744073709551616 n m (k+1):=by omega
  rw[e1,e2]
 have LS:∀ k,k<4→ ∀ w,(callFunc 137 #[.int .u64 (lim n k:Int),.int .u64 (lim m k:Int),.int .u64 (uY 18446744073709551616 T m k:Int)]).run prog w= .ok (.value (.tuple #[.int .u64 (lim T k:Int),.int .u64 (uY 18446744073709551616 T m (k+1):Int)])) w:=fun k hk w=>by
  obtain⟨a,b⟩:=Ek T m k
  have c:=(Ek T m (k+1)).2
  have e:lim (T+m) k=lim n k:=by
   rw[← FI _ _ hk,show (T+m) % 115792089237316195423570985008687907853269984665640564039457584007913129639936=n by omega]
  rw[e] at a
  have:=fG n k
  have:=fG m k
  have:=fG T k
  have e1:(lim n k+18446744073709551616 - lim m k - uY 18446744073709551616 T m k) % 18446744073709551616=lim T k:=by omega
  have e2:(if lim n k<lim m k+uY 18446744073709551616 T m k then 1 else 0)=uY 18446744073709551616 T m (k+1):=by split <;> omega
  rw[GI _ _ _ b,e1,e2]
 have FA:=Bd 18446744073709551616 n m 4 hn hm
 have FSn:=Bd 18446744073709551616 T m 4 hTl hm
 refine⟨fun w=>?_,fun w=>?_⟩
 case' refine_1=>
  obtain⟨c,hc⟩:=Nm (uY 18446744073709551616 n m)
  obtain⟨F,hF⟩:=Nm (decide (115792089237316195423570985008687907853269984665640564039457584007913129639936≤n+m))
  obtain⟨D,hD⟩:=Nm (S)
  rw[← hF,← hD]
  have hFc:((c 4:Int)!=0)=F:=by rw[hF,hc,FA,Bool.eq_iff_iff];simp;omega
  have hc0:c 0=0:=by rw[hc];exact FH _ _ _
  have LW:=LA
  rw[← hc,← hD] at LW
  have hf:pH (lim D) 4=uc D:=rfl
  replace LW:=Hy LW
  replace hc:=Hy hc
  replace hF:=Hy hF
  replace hD:=Hy hD
  clear LA LS FA FSn hT hS hn hm hTl
 case' refine_2=>
  obtain⟨c,hc⟩:=Nm (uY 18446744073709551616 T m)
  obtain⟨F,hF⟩:=Nm (decide (n<m))
  obtain⟨D,hD⟩:=Nm (T)
  rw[← hF,← hD]
  have hFc:((c 4:Int)!=0)=F:=by rw[hF,hc,FSn,Bool.eq_iff_iff];simp;omega
  have hc0:c 0=0:=by rw[hc];exact FH _ _ _
  have LW:=LS
  rw[← hc,← hD] at LW
  have hf:pH (lim D) 4=uc D:=rfl
  replace LW:=Hy LW
  replace hc:=Hy hc
  replace hF:=Hy hF
  replace hD:=Hy hD
  clear LA LS FA FSn hT hS hn hm hTl
 all_goals
  obtain⟨W,hW⟩:=Nm (((((w.alloc (.cells (uc n).toArray 151)).alloc (.cells (uc m).toArray 151)).alloc (.cells #[.int .u64 0,.int .u64 0,.int .u64 0,.int .u64 0] 151)).alloc (.cells #[.int .u64 0,.int .u64 0,.int .u64 0,.int .u64 0] 151)))
  refine Xm80 ?_;intro H hH e bW
  have aA:Av W H 151 (uc n):=by rw[hW,hH];exact Av.alloc (Av.alloc (heap_alloc2_old _ _ _) _) _
  have aB:Av W (H+1) 151 (uc m):=by rw[hW,hH];exact Av.alloc (Av.alloc (heap_alloc2_new _ _ _) _) _
  have aR:Av W (H+2) 151 (uc 0):=by
   have q:=heap_alloc_new ((w.alloc (.cells (uc n).toArray 151)).alloc (.cells (uc m).toArray 151)) (.cells #[.int .u64 0,.int .u64 0,.int .u64 0,.int .u64 0] 151)
   rw[e,e] at q
   rw[hW,hH,LU];exact Av.alloc q _
  have aO:Av W (H+3) 151 (pH (lim D) 0):=by
   have q:=heap_alloc_new (((w.alloc (.cells (uc n).toArray 151)).alloc (.cells (uc m).toArray 151)).alloc (.cells #[.int .u64 0,.int .u64 0,.int .u64 0,.int .u64 0] 151)) (.cells #[.int .u64 0,.int .u64 0,.int .u64 0,.int .u64 0] 151)
   rw[e,e,e] at q
   rw[hW,hH,Ej _ _ OM];exact q
  have hHl:w.heap.size≤H+2:=by rw[hH];omega
  replace hW:=Hy hW
  replace hH:=Hy hH
  clear e
  first
   |go_enter func60,ntmps60
   |go_enter func122,ntmps122
  go_upto_region 2 with fail
  rw[show w.heap.size+1+1+1=w.heap.size+3 from rfl,show w.heap.size+1+1=w.heap.size+2 from rfl]
  rw[← hW.out,← hH.out]
  go_wp2
  go_loopw [7,8,9] (fun cv _ i wr=>∃ k:Nat,k≤4∧i= .int .i64 (k:Int)∧cv= .int .u64 (c k:Int)∧Below w.heap.size w wr∧Av wr H 151 (uc n)∧Av wr (H+1) 151 (uc m)∧Av wr (H+2) 151 (uc 0)∧Av wr (H+3) 151 (pH (lim D) k)) (fun _ _ i _=>4 - (intOf i).toNat)
  case atStart=>exact⟨0,by omega,rfl,by rw[hc0];rfl,bW,aA,aB,aR,aO⟩
  case round=>
   clear bW aA aB aR aO
   obtain⟨k,hk,rfl,rfl,bw,aA,aB,aR,aO⟩:=hrel
   by_cases hk4:k<4
   ·have tk:decide ((k:Int)<4)=true:=by simp;omega
    have k0:(0:Int)≤(k:Int):=by omega
    have k4:(k:Int)<4:=by omega
    have L:=LW.out k hk4
    have hset:=wI (lim D) k hk4
    obtain⟨U,hU⟩:=Nm (pH (lim D) k)
    have hlen:k<U.length:=by rw[hU];show k<4;omega
    rw[← hU] at hset aO
    replace hset:=Hy hset
    replace hU:=Hy hU
    obtain⟨z,hz⟩:=Nm (lim D k)
    obtain⟨c0,hc0'⟩:∃ z,z=c k:=⟨_,rfl⟩
    obtain⟨c1,hc1⟩:=Nm (c (k+1))
    rw[← hz,← hc0',← hc1] at L
    rw[← hc0']
    replace hz:=Hy hz
    replace hc0':=Hy hc0'
    replace hc1:=Hy hc1
    have cx:=lL n k hk4
    have cy:=lL m k hk4
    go_upto_region 6 with fail
    have hs1:Hid (∀ V,V=U.set k (.int .u64 (z:Int))→k<V.length∧V.set k (.int .u64 (z:Int))=V):=Hy fun V hV=>by rw[hV,List.length_set,List.set_set];exact⟨hlen,rfl⟩
    rw[← hz.out] at hset
    obtain⟨V,hV⟩:=Nm (U.set k (.int .u64 (z:Int)))
    obtain⟨hlV,hset2⟩:=hs1.out V hV
    clear hs1
    replace hV:=Hy hV
    replace hset2:=Hy hset2
    refine eH 14 [] [(13,fun w'=>Av w' (H+3) 151 V)] (RC (H+3) 151 U V) KR KR KR KR KR KR (fun w=>RC.refl w) RC.trans zI (by
     intro p hp w w' hR h
     simp only[List.mem_singleton] at hp
     subst hp
     exact hR.2.1 h) ?_
    repeat (first
     |refine rU (fun w=>RC.refl w) rfl (vT (fun w=>RC.refl w) rfl rfl rfl rfl _ (by first|exact .inl rfl|exact .inr rfl) pB zZ (jC ?_))
     |refine rU (fun w=>RC.refl w) rfl (cT (fun w=>RC.refl w) rfl rfl rfl rfl (fun w hw=>by have:=k0;have:=k4;have:=(hw.1.av aA.drew OM).cell k _ cx;have:=(hw.1.av aB.drew OM).cell k _ cy;have:=L w;go_simp;first|done|rfl) zZ (jC ?_)))
    refine pJ rfl rfl (fun w hw=>RC.store aO.drew hw _ _ _ rfl k hlen hlV .u64 (z:Int) rfl rfl oG hV.out.symm hset2.out 13) ?_
    refine mG fun w6 hw6 hg=>?_
    simp only[List.drop_succ_cons,List.drop_zero]
    have a7:=hg (13,fun w'=>Av w' (H+3) 151 V) (List.mem_singleton.2 rfl)
    have f7:=Fr.ofDrew hw6.1
    dsimp only at a7
    rw[hV.out,hset.out] at a7
    have A7:=f7.av aA OM
    have B7:=f7.av aB OM
    have R7:=f7.av aR OM
    have b7:=bw.trans (f7.b (B:=w.heap.size) (fun k hk=>by rw[hk];omega) bw.size)
    clear aA aB aR aO bw f7 hg hw6 L
    go_wp2
    exact⟨⟨k+1,by omega,by go_num,by rw[hc1.out],b7,A7,B7,R7,a7⟩,by simp[intOf];omega⟩
   ·obtain rfl:k=4:=by omega
    have tk:decide (((4:Nat):Int)<4)=false:=by decide
    rw[hf] at aO
    obtain⟨c0,hc0'⟩:∃ z,z=c 4:=⟨_,rfl⟩
    rw[← hc0'] at hFc ⊢
    replace hc0':=Hy hc0'
    go_wp2_with (first
     |((with_reducible refine LH aO 4 SU ?_ ?_);rfl)
     |((with_reducible refine SF bw aR hHl (uc D) 4 ?_ ?_ ?_);rfl;rfl;intro w4 a4 b4 k4 z4))
    exact bodyPost_ret (v:=.tuple #[.agg (uc D).toArray,.bool F]) ((aK (C:=uc D) bM bM a4 _ SU rfl 4 rfl KR).trans bM) bM ⟨rfl,b4⟩
theorem LX (n m:Nat) (hn:n<115792089237316195423570985008687907853269984665640564039457584007913129639936) (hm:m<115792089237316195423570985008687907853269984665640564039457584007913129639936) (w:World):Calls prog 60 #[.agg (uc n).toArray,.agg (uc m).toArray] w fun e w'=>e= .returned (.tuple #[.agg (uc ((n+m) % 115792089237316195423570985008687907853269984665640564039457584007913129639936)).toArray,.bool (decide (115792089237316195423570985008687907853269984665640564039457584007913129639936≤n+m))])∧Below w.heap.size w w':=(FK n m hn hm).1 w
theorem Rm (n m:Nat) (hn:n<115792089237316195423570985008687907853269984665640564039457584007913129639936) (hm:m<115792089237316195423570985008687907853269984665640564039457584007913129639936) (w:World):Calls prog 122 #[.agg (uc n).toArray,.agg (uc m).toArray] w fun e w'=>e= .returned (.tuple #[.agg (uc ((n+115792089237316195423570985008687907853269984665640564039457584007913129639936 - m) % 115792089237316195423570985008687907853269984665640564039457584007913129639936)).toArray,.bool (decide (n<m))])∧Below w.heap.size w w':=(FK n m hn hm).2 w
end Go.Proofs.YtobjgebojhjhnaaGreatDoor
