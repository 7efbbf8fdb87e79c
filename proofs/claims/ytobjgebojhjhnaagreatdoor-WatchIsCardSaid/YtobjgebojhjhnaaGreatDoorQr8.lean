import Derived.Test.YtobjgebojhjhnaaGreatDoorUc
import Derived.Test.YtobjgebojhjhnaaGreatDoorLen
import Derived.Deep.QuietTactic
import Derived.BigQuiet
namespace Go.Proofs.YtobjgebojhjhnaaGreatDoor
set_option maxRecDepth 100000
set_option maxHeartbeats 16000000
open Go.RowKit Tryz
theorem zP {x:Nat} (h:x<18446744073709551616):Lib.bitLen x≤64:=Lib.bitLen_le x 64 LR h
theorem zQ:∀ (k x:Nat),x<18446744073709551616→Lib.bitLen x≤k→x<2 ^ k
 |0,x,hx,h=>by
  by_cases h0:x=0
  ·subst h0;decide
  ·rw[Lib.bitLen_half x h0 hx] at h;omega
 |k+1,x,hx,h=>by
  by_cases h0:x=0
  ·subst h0;exact Nat.pow_pos OM
  ·rw[Lib.bitLen_half x h0 hx] at h
   have:=zQ k (x / 2) OM OM
   rw[Nat.pow_succ]
   omega
def sL (n:Nat):Nat→Nat
 |0=>0
 |k+1=>if lim n k=0 then sL n k else 64*k+Lib.bitLen (lim n k)
theorem rE (n:Nat):∀ k,n / 18446744073709551616 ^ k=0→n<2 ^ sL n k∧sL n k≤64*k∧(0<sL n k→2 ^ (sL n k - 1)≤n)
 |0,h=>by
  rw[Nat.pow_zero,Nat.div_one] at h
  simp[sL,h]
 |j+1,h=>by
  rw[Nat.pow_succ,← Nat.div_div_eq_div_mul] at h
  unfold sL
  have hx:lim n j=n / 18446744073709551616 ^ j:=by unfold lim;omega
  have hl:=fG n j
  split
  ·rename_i h0
   obtain⟨a,b,c⟩:=rE n j OM
   exact⟨a,by omega,c⟩
  ·rename_i h0
   have h1:=zQ _ _ hl LR
   have h2:=zP hl
   have h3:2 ^ (Lib.bitLen (lim n j) - 1)≤lim n j:=by
    refine Nat.le_of_not_lt fun g=>?_
    by_cases hz:Lib.bitLen (lim n j)=0
    ·rw[hz] at h1;omega
    ·have:=Lib.bitLen_le _ _ OM g
     omega
   have h4:Lib.bitLen (lim n j)≠0:=fun e=>by rw[e] at h1;omega
   generalize Lib.bitLen (lim n j)=L at*
   have e:(18446744073709551616:Nat) ^ j=2 ^ (64*j):=by rw[Nat.pow_mul]
   rw[hx,e] at h1 h3
   refine⟨?_,by omega,fun _=>?_⟩
   ·rw[Nat.pow_add,Nat.mul_comm]
    exact(Nat.div_lt_iff_lt_mul (Nat.pow_pos OM)).1 h1
   ·rw[show 64*j+L - 1=(L - 1)+64*j by omega,Nat.pow_add]
    exact(Nat.le_div_iff_mul_le (Nat.pow_pos OM)).1 h3
theorem IJ (n k:Nat) (hn:n<115792089237316195423570985008687907853269984665640564039457584007913129639936) (hk:k<256):256<sL n 4+k↔115792089237316195423570985008687907853269984665640564039457584007913129639936≤n*2 ^ k:=by
 obtain⟨a,b,c⟩:=rE n 4 (Nat.div_eq_of_lt OM)
 rw[show (115792089237316195423570985008687907853269984665640564039457584007913129639936:Nat)=2 ^ 256 from rfl]
 generalize sL n 4=L at*
 constructor
 ·intro h
  refine Nat.le_trans (Nat.pow_le_pow_right OM (show 256≤L - 1+k by omega)) ?_
  rw[Nat.pow_add]
  exact Nat.mul_le_mul_right _ (c OM)
 ·intro h
  refine Nat.lt_of_not_le fun g=>Nat.not_lt.2 h ?_
  refine Nat.lt_of_lt_of_le ?_ (Nat.pow_le_pow_right OM g)
  rw[Nat.pow_add]
  exact Nat.mul_lt_mul_of_pos_right a (Nat.pow_pos OM)
theorem cR {P:Program} (ty:TypeId) {w:World} {g i:Nat} {t:TypeId} {l:List Value} (h:Av w g t l) (hi:i<l.length) (kk:IntKind) (z:Int) {ops:Array Oper} {rest:List Oper} {a:Act} {Q:Exit→Act→World→Prop} {d tp pos af} {x y:Operand}
  (hx:a.eval x= .pointer (some ⟨g,i,none⟩)) (hy:a.eval y= .int kk z) (hs:(P.info? ty).map (·.size)=some 1) (k:∀ w',Av w' g t (l.set i (.int kk z))→Fr (fun k=>k=g) w w'→wpList P ops Q rest (a.put d undef) w'):wpList P ops Q (⟨d,.store ty x y,tp,pos,af,none⟩ :: rest) a w:=by
 refine wpList_plain rfl fun _ hK=>?_
 refine Xm116 ?_;intro hc hf i0 hi0 hz0 hsz
 unfold Oper.wp execOp
 simp only[hx,hy]
 go_simp
 exact hK _ _ (k _ (h.set i _) (Fr.setCell w ⟨g,i,none⟩ _))
theorem oG:(prog.info? 92).map (·.size)=some 1:=by kernel_rfl
def pH (f:Nat→Nat) (k:Nat):List Value:=fS (if 0<k then f 0 else 0) (if 1<k then f 1 else 0) (if 2<k then f 2 else 0) (if 3<k then f 3 else 0)
theorem wI (f:Nat→Nat) (k:Nat) (hk:k<4):(pH f k).set k (.int .u64 (f k:Int))=pH f (k+1):=by
 have h:k=0∨k=1∨k=2∨k=3:=by omega
 rcases h with rfl|rfl|rfl|rfl <;> simp[pH,fS]
theorem Oj (f:Nat→Nat):pH f 4=fS (f 0) (f 1) (f 2) (f 3):=rfl
theorem iC (n j k:Nat):(lim n j).testBit k=(decide (k<64) && n.testBit (64*j+k)):=by
 unfold lim
 rw[show (18446744073709551616:Nat)=2 ^ 64 from by decide,← Nat.pow_mul,Nat.testBit_mod_two_pow,Nat.testBit_div_two_pow]
 rw[Nat.add_comm]
theorem IK {a b:Nat} (ha:a<18446744073709551616) (hb:b<18446744073709551616):bits .or .u64 (a:Int) (b:Int)=((a |||b:Nat):Int):=(bits_nat .u64 64 DC wraps_u64 a b ha hb).2
theorem LJ (n q d j:Nat) (hd:d<64):lim (n / 2 ^ (64*q+d)) j=lim n (j+q) / 2 ^ d |||lim n (j+q+1)*2 ^ (64 - d) % 18446744073709551616:=by
 refine Nat.eq_of_testBit_eq fun k=>?_
 rw[Nat.testBit_or,show (18446744073709551616:Nat)=2 ^ 64 from rfl,Nat.testBit_mod_two_pow,Nat.testBit_mul_two_pow]
 simp only[iC,Nat.testBit_div_two_pow]
 by_cases h1:k<64
 ·by_cases h2:k+d<64
  ·have:¬ 64 - d≤k:=by omega
   simp[h1,h2,this,show 64*j+k+(64*q+d)=64*(j+q)+(k+d) by omega]
  ·have h3:64 - d≤k:=by omega
   simp[h1,h2,h3,show k - (64 - d)<64 by omega,show 64*j+k+(64*q+d)=64*(j+q+1)+(k - (64 - d)) by omega]
 ·simp[h1]
  intro h
  omega
theorem LK (n q d i:Nat) (hd:d<64) (hi:q≤i):lim (n*2 ^ (64*q+d)) i=lim n (i - q)*2 ^ d % 18446744073709551616 |||if q<i then lim n (i - q - 1) / 2 ^ (64 - d) else 0:=by
 refine Nat.eq_of_testBit_eq fun k=>?_
 rw[Nat.testBit_or,show (18446744073709551616:Nat)=2 ^ 64 from rfl,Nat.testBit_mod_two_pow,Nat.testBit_mul_two_pow,iC,Nat.testBit_mul_two_pow,iC]
 by_cases h1:k<64
 ·by_cases h2:d≤k
  ·have h4:(if q<i then lim n (i - q - 1) / 2 ^ (64 - d) else 0).testBit k=false:=by
    split
    ·rw[Nat.testBit_div_two_pow,iC];simp;omega
    ·simp
   simp[h1,h2,h4,show k - d<64 by omega,show 64*q+d≤64*i+k by omega,show 64*i+k - (64*q+d)=64*(i - q)+(k - d) by omega]
  ·split
   ·rw[Nat.testBit_div_two_pow,iC]
    simp[h1,h2,show k+(64 - d)<64 by omega,show 64*q+d≤64*i+k by omega,show 64*i+k - (64*q+d)=64*(i - q - 1)+(k+(64 - d)) by omega]
   ·simp[h1,h2];omega
 ·have h4:(if q<i then lim n (i - q - 1) / 2 ^ (64 - d) else 0).testBit k=false:=by
   split
   ·rw[Nat.testBit_div_two_pow,iC];simp;omega
   ·simp
  simp[h1,h4]
theorem Xm90 {p q:Prop} (k:q) (h:Hid q→p:=by
 intro hk
 have bW:Below w.heap.size w W:=by rw[hW];exact(Below.refl _ _).alloc LR _
 revert bW;exact hk.out):p:=h (Hy k)
theorem PT (n:Nat) (w:World):Calls prog 120 #[.agg (uc n).toArray] w fun e w'=>e= .returned (.int .i64 (sL n 4:Int))∧Below w.heap.size w w':=by
 obtain⟨W,hW⟩:=Nm (w.alloc (.cells (uc n).toArray 151))
 obtain⟨H,hH⟩:=Nm (w.heap.size)
 refine Xm90 ?_;intro bW
 have aW:Av W H 151 (uc n):=by rw[hW,hH];exact heap_alloc_new _ _
 obtain⟨R,hR⟩:=Nm (sL n 4)
 rw[← hR]
 replace hR:=Hy hR
 replace hW:=Hy hW
 replace hH:=Hy hH
 go_enter func120,ntmps120
 go_upto_region 1 with fail
 rw[← hW.out,← hH.out]
 go_wp2
 go_loop [3] (fun i=>∃ k:Nat,k≤4∧i= .int .i64 ((k:Int) - 1)∧Hid (R=sL n k)) (fun i=>(intOf i+1).toNat)
 case atStart=>exact⟨4,by omega,rfl,hR⟩
 case round=>
  obtain⟨k,hk,rfl,he⟩:=hrel
  cases k with
  |zero=>
   go_wp2
   go_ret
   exact⟨by rw[he.out];rfl,bW⟩
  |succ j=>
   rw[show ((j+1:Nat):Int) - 1=(j:Int) by omega]
   have hl:=fG n j
   have e:=he.out
   unfold sL at e
   have c0:=aW.cell j _ (lL n j OM)
   generalize lim n j=x at*
   have k0:(0:Int)≤(j:Int):=by omega
   have k4:(j:Int)<4:=by omega
   by_cases hz:x=0
   ·have t1:((x:Int)!=0)=false:=by simp;omega
    rw[if_pos hz] at e
    replace e:=Hy e
    go_wp2
    go_round
    case rel=>exact⟨j,by omega,by go_num,e⟩
    case measure=>simp[intOf]
   ·have t1:((x:Int)!=0)=true:=by simp;omega
    rw[if_neg hz] at e
    have hb:=zP hl
    have HL:=PS (x:Int) W OM OM
    rw[Int.toNat_natCast] at HL
    generalize Lib.bitLen x=L at*
    obtain⟨q,hq⟩:=Nm (64*j)
    have e4:IntKind.i64.wrap (64*(j:Int))=q:=by rw[IntKind.wrap_i64];omega
    have e5:IntKind.i64.wrap (q+(L:Int))=(R:Int):=by rw[IntKind.wrap_i64];omega
    replace HL:=Hy HL
    clear hq e he
    go_wp2_with (go_at_call 136;refine(HL.out).mono ?_;rintro e w1 ⟨rfl,rfl⟩)
    go_ret
    exact⟨rfl,bW⟩
theorem mS:(prog.info? 3).map (·.size)=some 1:=by kernel_rfl
theorem rF (a:Nat):zeroCells202=(jB a 0).toArray:=by
 rw[PR]
 kernel_rfl
theorem PU (x:Nat) (h:x<18446744073709551616):bits .and .u64 (x:Int) 1=((x % 2:Nat):Int):=by
 have:=(bits_nat .u64 64 DC wraps_u64 x 1 OM OM).1
 rw[show x &&& 1=x % 2 from Nat.and_two_pow_sub_one_eq_mod _ 1] at this
 simpa using this
theorem Bc (n k:Nat) (hk:k<4):(uc n)[k]? =some (.int .u64 (lim n k:Int)):=by
 rcases k with _|_|_|_|k
 ·rfl
 ·rfl
 ·rfl
 ·rfl
 ·omega
theorem pI (a:Nat) (w:World):
  Calls prog 93 #[.agg (uc a).toArray] w fun e w'=>e= .returned (.agg (jB a 256).toArray)∧Below w.heap.size w w':=by
 obtain⟨W,hW⟩:=Nm (((w.alloc (.cells (uc a).toArray 158)).alloc (.cells zeroCells202 202)).alloc (.cells zeroCells202 202))
 obtain⟨H,hH⟩:=Nm (w.heap.size)
 have bW:Below H w W:=by rw[hW,hH];exact(((Below.refl _ _).alloc LR _).alloc zS _).alloc zU _
 have aU:Av W H 158 (uc a):=by rw[hW,hH];exact Av.alloc (heap_alloc2_old _ _ _) _
 have aR:Av W (H+1) 202 (jB a 0):=by rw[hW,hH,rF a];exact Av.alloc (heap_alloc2_new _ _ _) _
 have aD:Av W (H+1+1) 202 (jB a 0):=by
  have e:∀ (v:World) (o:Obj),(v.alloc o).heap.size=v.heap.size+1:=fun v o=>by simp
  have:=heap_alloc_new ((w.alloc (.cells (uc a).toArray 158)).alloc (.cells zeroCells202 202)) (.cells zeroCells202 202)
  rw[e,e] at this
  rw[hW,hH]
  rw[rF a] at this ⊢
  exact this
 have hHs:H≤W.heap.size:=Nat.le_of_lt aU.lt
 obtain⟨D,hD⟩:=Nm (jB a 256)
 rw[← hD]
 replace hD:=Hy hD
 replace hW:=Hy hW
 replace hH:=Hy hH
 go_enter func93,ntmps93
 go_upto_region 2 with fail
 rw[← hW.out,← hH.out]
 go_upto_region 3 with fail
 go_loopw [4] (fun i wr=>∃ k:Nat,k≤256∧i= .int .i64 (k:Int)∧Below H w wr∧Av wr H 158 (uc a)∧Av wr (H+1) 202 (jB a 0)∧Av wr (H+1+1) 202 (jB a k)) (fun i _=>256 - (intOf i).toNat)
 case atStart=>exact⟨0,by omega,rfl,bW,aU,aR,aD⟩
 case round=>
  clear aU aR aD bW
  obtain⟨k,hk,rfl,bw,aU,aR,aD⟩:=hrel
  by_cases hlt:k<256
  ·have t1:decide ((k:Int)<256)=true:=by simp;omega
   have e1:Int.tdiv (k:Int) 64=((k / 64:Nat):Int):=by rw[Int.tdiv_eq_ediv_of_nonneg OM];omega
   have e2:Int.tmod (k:Int) 64=((k % 64:Nat):Int):=by rw[Int.tmod_eq_emod_of_nonneg OM];omega
   have hg:=ID a k
   obtain⟨q,hq⟩:=Nm (k / 64)
   obtain⟨r,hr⟩:=Nm (k % 64)
   have hq4:q<4:=by omega
   have hr6:r<64:=by omega
   rw[← hq] at e1 hg
   rw[← hr] at e2 hg
   have cU:=aU.cell q _ (Bc a q hq4)
   obtain⟨x,hx⟩:=Nm (lim a q)
   rw[← hx] at cU hg
   have q0:(0:Int)≤(q:Int):=by omega
   have q1:(q:Int)<4:=by omega
   have r0:(0:Int)≤(r:Int):=by omega
   have r1:(r:Int)<64:=by omega
   have k0:(0:Int)≤(k:Int):=by omega
   have k1:(k:Int)<256:=by omega
   have hl:k<(jB a k).length:=by rw[eG];exact hlt
   replace hq:=Hy hq
   replace hr:=Hy hr
   replace hx:=Hy hx
   replace hg:=Hy hg
   obtain⟨d,hd⟩:=Nm (cS a k)
   have hd2:d<2:=by rw[hd];exact mF a k
   have e3:bits .and .u64 ((x:Int) / 2 ^ r) 1=(d:Int):=by
    have h1:((x:Int) / 2 ^ r)=((x / 2 ^ r:Nat):Int):=by simp
    rw[h1,PU _ (Nat.lt_of_le_of_lt (Nat.div_le_self _ _) (by rw[hx.out];exact fG a q)),hg.out,hd]
   have e4:IntKind.i64.wrap (d:Int)=(d:Int):=by rw[IntKind.wrap_i64];omega
   have hset:=AW a k hlt
   rw[← hd] at hset
   obtain⟨D1,hD1⟩:=Nm (jB a k)
   rw[← hD1] at hset aD hl
   replace hset:=Hy hset
   replace hd:=Hy hd
   replace hD1:=Hy hD1
   go_upto_region 4 with ((with_reducible refine cR 3 aD hl .i64 (d:Int) ?_ ?_ mS ?_);rfl;rfl;intro w4 a4 f4)
   rw[hset.out] at a4
   have aU4:=f4.av aU OM
   have aR4:=f4.av aR OM
   have b4:=bw.trans (f4.b (B:=H) (fun k hk=>by omega) (by rw[hH.out];exact bw.size))
   clear aU aR aD bw f4 cU
   go_wp2
   refine⟨⟨k+1,by omega,by go_num,b4,aU4,aR4,a4⟩,?_⟩
   simp[intOf]
   omega
  ·obtain rfl:k=256:=by omega
   have t1:decide ((256:Int)<256)=false:=by simp
   have l256:=Hy (eG a 256)
   have l0:=Hy (eG a 0)
   have one:=Hy (List.all_eq_true.2 (pG a 256))
   rw[← hD.out] at aD l256 one
   go_wp2_with (first
    |((with_reducible refine LF aD 256 l256.out Tu ?_ ?_);rfl)
    |((with_reducible refine SF bw aR OM D 256 ?_ ?_ ?_ (hn:=l256.out) (ho:=l0.out) (h1:=one.out));rfl;rfl;intro w4 a4 b4 k4 z4;clear k4 z4))
   refine bodyPost_ret (results_cell_row rfl _ _ (H+1) _ _ (0,0) _ bM a4 Tu rfl (by rw[List.size_toArray,l256.out];kernel_rfl)) rfl ⟨rfl,by rw[← hH.out];exact b4⟩
theorem zR:(prog.info? 92).map (·.size)=some 1:=by kernel_rfl
theorem jK (n:Nat):(uc n).length=4:=rfl
theorem LO (n:Nat):(uc n).all (·.oneCell')=true:=rfl
theorem NC (n:Nat): #[Value.int .u64 0,.int .u64 0,.int .u64 0,.int .u64 0]=(uc (n % 2 ^ 0)).toArray:=by
 rw[Nat.pow_zero,Nat.mod_one]
 rfl
theorem qK (n:Nat) (w:World):
  Calls prog 94 #[.agg (jB n 256).toArray] w fun e w'=>e= .returned (.agg (uc (n % 2 ^ 256)).toArray)∧Below w.heap.size w w':=by
 obtain⟨B,hB⟩:=Nm (jB n 256)
 rw[← hB]
 obtain⟨Z,hZ⟩:=Nm (uc (n % 2 ^ 256))
 rw[← hZ]
 obtain⟨W,hW⟩:=Nm (((w.alloc (.cells B.toArray 202)).alloc (.cells #[.int .u64 0,.int .u64 0,.int .u64 0,.int .u64 0] 158)).alloc (.cells #[.int .u64 0,.int .u64 0,.int .u64 0,.int .u64 0] 158))
 obtain⟨H,hH⟩:=Nm (w.heap.size)
 have bW:Below H w W:=by rw[hW,hH];exact(((Below.refl _ _).alloc LR _).alloc zS _).alloc zU _
 have aB:Av W H 202 B:=by rw[hW,hH];exact Av.alloc (heap_alloc2_old _ _ _) _
 have aR:Av W (H+1) 158 (uc (n % 2 ^ 0)):=by rw[hW,hH,NC n];exact Av.alloc (heap_alloc2_new _ _ _) _
 have aA:Av W (H+1+1) 158 (uc (n % 2 ^ 0)):=by
  have e:∀ (v:World) (o:Obj),(v.alloc o).heap.size=v.heap.size+1:=fun v o=>by simp
  have:=heap_alloc_new ((w.alloc (.cells B.toArray 202)).alloc (.cells #[.int .u64 0,.int .u64 0,.int .u64 0,.int .u64 0] 158)) (.cells #[.int .u64 0,.int .u64 0,.int .u64 0,.int .u64 0] 158)
  rw[e,e] at this
  rw[hW,hH]
  rw[NC n] at this ⊢
  exact this
 replace hZ:=Hy hZ
 replace hB:=Hy hB
 replace hW:=Hy hW
 replace hH:=Hy hH
 go_enter func94,ntmps94
 go_upto_region 2 with fail
 rw[← hW.out,← hH.out]
 go_upto_region 3 with fail
 go_loopw [4] (fun i wr=>∃ k:Nat,k≤256∧i= .int .i64 (k:Int)∧Below H w wr∧Av wr H 202 B∧Av wr (H+1) 158 (uc (n % 2 ^ 0))∧Av wr (H+1+1) 158 (uc (n % 2 ^ k))) (fun i _=>256 - (intOf i).toNat)
 case atStart=>exact⟨0,by omega,rfl,bW,aB,aR,aA⟩
 case round=>
  clear aB aR aA bW
  obtain⟨k,hk,rfl,bw,aB,aR,aA⟩:=hrel
  by_cases hlt:k<256
  ·have t1:decide ((k:Int)<256)=true:=by simp;omega
   have e1:Int.tdiv (k:Int) 64=((k / 64:Nat):Int):=by rw[Int.tdiv_eq_ediv_of_nonneg OM];omega
   have e2:Int.tmod (k:Int) 64=((k % 64:Nat):Int):=by rw[Int.tmod_eq_emod_of_nonneg OM];omega
   have hnx:=LD n k hlt
   have cD:=kQ n 256 k hlt
   rw[if_pos hlt,← hB.out] at cD
   obtain⟨d,hd⟩:=Nm (cS n k)
   have hd2:d<2:=by rw[hd];exact mF n k
   rw[← hd] at cD hnx
   obtain⟨q,hq⟩:=Nm (k / 64)
   obtain⟨r,hr⟩:=Nm (k % 64)
   have hq4:q<4:=by omega
   have hr6:r<64:=by omega
   rw[← hq] at e1 hnx
   rw[← hr] at e2 hnx
   have cL:=Bc (n % 2 ^ k) q hq4
   have hLl:=fG (n % 2 ^ k) q
   obtain⟨L,hL⟩:=Nm (lim (n % 2 ^ k) q)
   rw[← hL] at cL hnx hLl
   obtain⟨V,hV⟩:=Nm (uc (n % 2 ^ k))
   rw[← hV] at cL hnx aA
   have hp:2 ^ r≤2 ^ 63:=Nat.pow_le_pow_right OM OM
   obtain⟨Q,hQ⟩:=Nm (d*2 ^ r)
   have hQl:Q<18446744073709551616:=by
    have h1:d*2 ^ r≤1*2 ^ 63:=Nat.mul_le_mul OM hp
    rw[← hQ] at h1
    exact Nat.lt_of_le_of_lt h1 DC
   have e5:IntKind.u64.wrap ((d:Int)*2 ^ r)=(Q:Int):=by
    have h1:((d:Int)*2 ^ r)=(Q:Int):=by rw[hQ];simp
    rw[h1,IntKind.wrap_u64];omega
   rw[← hQ] at hnx
   obtain⟨P2,hP2⟩:=Nm (L |||Q)
   have o1:bits .or .u64 (L:Int) (Q:Int)=(P2:Int):=by
    rw[hP2]
    exact(bits_nat .u64 64 DC wraps_u64 L Q hLl hQl).2
   rw[← hP2] at hnx
   have e4:IntKind.u64.wrap (d:Int)=(d:Int):=by rw[IntKind.wrap_u64];omega
   have e6:IntKind.u64.wrap (r:Int)=(r:Int):=by rw[IntKind.wrap_u64];omega
   have q0:(0:Int)≤(q:Int):=by omega
   have q1:(q:Int)<4:=by omega
   have r0:(0:Int)≤(r:Int):=by omega
   have r1:(r:Int)<64:=by omega
   have k0:(0:Int)≤(k:Int):=by omega
   have k1:(k:Int)<256:=by omega
   have hVl:q<V.length:=by rw[hV];exact hq4
   replace hnx:=Hy hnx
   replace cD:=Hy cD
   replace cL:=Hy cL
   replace hd:=Hy hd
   replace hq:=Hy hq
   replace hr:=Hy hr
   replace hL:=Hy hL
   replace hV:=Hy hV
   replace hQ:=Hy hQ
   replace hP2:=Hy hP2
   replace e4:=Hy e4
   replace e5:=Hy e5
   replace e6:=Hy e6
   have e7:IntKind.i64.wrap (q:Int)=(q:Int):=by rw[IntKind.wrap_i64];omega
   replace e7:=Hy e7
   replace o1:=Hy o1
   clear hp hQl hLl
   go_upto_region 5 with fail
   refine bL 16 [] cI KR KR KR KR KR cI.refl cI.trans zI ?_
   repeat refine ZP (fun w hw=>by have:=e1;have:=e7.out;have:=q0;have:=q1;have:=(aA.b hw.drew).cell q _ cL.out;have:=k0;have:=k1;have:=(aB.b hw.drew).cell k _ cD.out;have:=e4.out;have:=e2;have:=e6.out;have:=e5.out;have:=r0;have:=r1;have:=o1.out;exact zG) ?_
   refine bO fun w2 hw2=>aF ?_
   have c0:=aB.b hw2.drew
   have c1:=aR.b hw2.drew
   have c2:=aA.b hw2.drew
   have b2:=bw.trans (hw2.drew.mono (by rw[hH.out];exact bw.size))
   simp only[List.drop_succ_cons,List.drop_zero]
   ((with_reducible refine cR 92 c2 hVl .u64 (P2:Int) ?_ ?_ zR ?_);rfl;rfl;intro w3 d2 f3)
   rw[hnx.out] at d2
   have d0:=f3.av c0 OM
   have d1:=f3.av c1 OM
   have b3:=b2.trans (f3.b (B:=H) (fun k hk=>by omega) (Nat.le_trans (by rw[hH.out];exact Nat.le_refl _) b2.size))
   clear c0 c1 c2 b2 f3 aB aR aA bw
   go_wp2
   refine⟨⟨k+1,by omega,by go_num,b3,d0,d1,d2⟩,?_⟩
   simp[intOf]
   omega
  ·obtain rfl:k=256:=by omega
   have t1:decide ((256:Int)<256)=false:=by simp
   have one:=Hy (LO (n % 2 ^ 256))
   have zl:=Hy (jK (n % 2 ^ 256))
   rw[← hZ.out] at aA one zl
   have hHl:H≤H+1:=by omega
   go_wp2_with (first
    |((with_reducible refine LF aA 4 zl.out SV ?_ ?_);rfl)
    |((with_reducible refine SF bw aR hHl Z 4 ?_ ?_ ?_ (hn:=zl.out) (h1:=one.out));rfl;rfl;intro w4 a4 b4 k4 z4;clear k4 z4))
   refine bodyPost_ret (results_cell_row rfl _ _ (H+1) _ _ (0,0) _ bM a4 SV rfl (by rw[List.size_toArray,zl.out];kernel_rfl)) rfl ⟨rfl,by rw[← hH.out];exact b4⟩
theorem Re (a:Nat):zeroCells202=(jB a 0).toArray:=rF a
theorem LQ (a m:Nat) (h:256≤m):jB a m=jB a 256:=by
 unfold jB
 refine List.map_congr_left fun i hi=>?_
 rw[List.mem_range] at hi
 rw[if_pos OM,if_pos OM]
theorem Rf (a:Nat) (ha:a<2 ^ 256) (z:Int) (n:Nat) (hz:max z 0=(n:Int)) (hn:n≤4096) (w:World):
  Calls prog 123 #[.agg (uc a).toArray,.int .i64 z] w fun e w'=>e= .returned (.agg (uc (a / 2 ^ n % 2 ^ 256)).toArray)∧Below w.heap.size w w':=by
 have hend:256≤n→jB (a / 2 ^ n) 256=jB (a / 2 ^ n) 0:=fun h=>AX _ _ fun i _=>by
  rw[wH];exact AZ _ _ (Nat.lt_of_lt_of_le ha (Nat.pow_le_pow_right OM OM))
 have hst0:∀ k,n≤4096→k+n<256→(jB a 256)[k+n]? =some (.int .i64 (cS (a / 2 ^ n) k:Int)):=fun k _ h=>by
  rw[kQ a 256 (k+n) h,if_pos h,wH]
 have hsk:∀ k,¬ k+n<256→jB (a / 2 ^ n) k=jB (a / 2 ^ n) (k+1):=fun k h=>IG _ _ (by
  rw[wH];exact AZ _ _ (Nat.lt_of_lt_of_le ha (Nat.pow_le_pow_right OM OM)))
 obtain⟨A,hA⟩:=Nm (a / 2 ^ n)
 obtain⟨X,hX⟩:=Nm (jB a 256)
 obtain⟨V,hV⟩:=Nm (uc a)
 obtain⟨Z,hZ⟩:=Nm (uc (A % 2 ^ 256))
 rw[← hA,← hV,← hZ]
 obtain⟨W,hW⟩:=Nm ((w.alloc (.cells V.toArray 158)).alloc (.cells #[.int .u64 0,.int .u64 0,.int .u64 0,.int .u64 0] 158))
 obtain⟨H,hH⟩:=Nm (w.heap.size)
 have bW:Below w.heap.size w W:=by rw[hW];exact((Below.refl _ _).alloc LR _).alloc zS _
 have aU:Av W H 158 V:=by rw[hW,hH];exact heap_alloc2_old _ _ _
 have aR:Av W (H+1) 158 [.int .u64 0,.int .u64 0,.int .u64 0,.int .u64 0]:=by rw[hW,hH];exact heap_alloc2_new _ _ _
 have lU:Hid (V.length=4):=Hy (by rw[hV];rfl)
 have lX:Hid (X.length=256):=Hy (by rw[hX];exact eG a 256)
 have oX:Hid (X.all (·.oneCell')=true):=Hy (by rw[hX];exact List.all_eq_true.2 (pG a 256))
 have zsz:Hid (zeroCells202.size=256):=Hy (by rw[rF 0,List.size_toArray,eG])
 have HD0:=pI a W
 rw[← hX,← hV] at HD0
 have HN0:=qK A
 rw[← hZ] at HN0
 have HD:=Hy HD0
 have HN:=Hy HN0
 have lZ:Hid (Z.length=4):=Hy (by rw[hZ];rfl)
 have oZ:Hid (Z.all (·.oneCell')=true):=Hy (by rw[hZ];rfl)
 replace hA:=Hy hA
 replace hX:=Hy hX
 replace hV:=Hy hV
 replace hZ:=Hy hZ
 replace hW:=Hy hW
 replace hH:=Hy hH
 clear HD0 HN0
 go_enter func123,ntmps123
 go_upto_region 1 with fail
 rw[← hW.out,← hH.out]
 go_upto_region 2 with fail
 go_upto_region 3 with (first
  |((with_reducible refine mE 158 aU ?_ _ 4 lU.out SV ?_ ?_ ?_);rfl;rfl;kernel_rfl)
  |(go_at_call 93;refine(HD.out).mono ?_;rintro e w1 ⟨rfl,b1⟩)
  |((with_reducible refine bF 202 ((Below.refl w1.heap.size w1).alloc LR _) (heap_alloc_new _ _) LR X ?_ ?_ 256 lX.out ?_ zsz.out oX.out ?_);rfl;rfl;kernel_rfl;intro w2 a5 b2 k2 z2;clear k2 z2))
 have b12:=b1.trans (b2.mono b1.size)
 have bw2:=bW.trans (b12.mono bW.size)
 have aR2:=aR.b b12
 obtain⟨g5,hg5⟩:=Nm (w1.heap.size)
 rw[← hg5] at a5 ⊢
 have hR5:H+1<g5:=by rw[hg5];exact Nat.lt_of_lt_of_le aR.lt b1.size
 replace hg5:=Hy hg5
 have a6:Av (w2.alloc (.cells zeroCells202 202)) w2.heap.size 202 (jB A 0):=by rw[Re A];exact heap_alloc_new _ _
 have b3:Below w2.heap.size w2 (w2.alloc (.cells zeroCells202 202)):=(Below.refl _ _).alloc LR _
 have bw3:=bw2.trans (b3.mono bw2.size)
 have aR3:=aR2.b b3
 have hg56:=a5.lt
 have a53:=a5.b b3
 obtain⟨w3,hw3⟩:=Nm (w2.alloc (.cells zeroCells202 202))
 obtain⟨g6,hg6⟩:=Nm (w2.heap.size)
 rw[← hw3,← hg6] at a6
 rw[← hw3] at bw3 aR3 a53
 rw[← hg6] at hg56
 replace hw3:=Hy hw3
 replace hg6:=Hy hg6
 have hHw:Hid (w.heap.size≤H):=Hy (by rw[hH.out];exact Nat.le_refl _)
 clear b1 b2 b3 b12 bw2 aR2 a5 aU aR bW HD
 rw[← hA.out] at hend hsk
 have hst1:=hst0
 rw[← hA.out,← hX.out] at hst1
 replace hend:=Hy hend
 replace hsk:=Hy hsk
 replace hst1:=Hy hst1
 clear hst0 ha
 go_upto_region 5 with fail
 rw[← hw3.out,← hg6.out]
 go_loopw [7] (fun iv wr=>∃ k:Nat,k≤256∧iv= .int .i64 (k:Int)∧(256≤n→k=0)∧Below w.heap.size w wr∧Av wr (H+1) 158 [.int .u64 0,.int .u64 0,.int .u64 0,.int .u64 0]∧Av wr g5 202 X∧Av wr g6 202 (jB A k)) (fun iv _=>256 - (intOf iv).toNat)
 case atStart=>exact⟨0,by omega,rfl,fun _=>rfl,bw3,aR3,a53,a6⟩
 case round=>
  clear bw3 aR3 a53 a6
  obtain⟨k,hk,rfl,hk0,bw,aR,a5,a6⟩:=hrel
  by_cases hn2:n<256
  ·have t2:decide ((n:Int)<256)=true:=by simp;omega
   by_cases hlt:k<256
   ·have t1:decide ((k:Int)<256)=true:=by simp;omega
    obtain⟨s,hs⟩:=Nm (k+n)
    have e1:IntKind.i64.wrap ((k:Int)+(n:Int))=(s:Int):=by rw[IntKind.wrap_i64];omega
    have k0:(0:Int)≤(k:Int):=by omega
    have k1:(k:Int)<256:=by omega
    by_cases hs2:s<256
    ·have t3:decide ((s:Int)<256)=true:=by simp;omega
     have s0:(0:Int)≤(s:Int):=by omega
     have s1:(s:Int)<256:=by omega
     have cX:=a5.cell s _ (by rw[hs];exact hst1.out k hn OM)
     have hset:=AW A k hlt
     have hl:k<(jB A k).length:=by rw[eG];exact hlt
     obtain⟨d,hd⟩:=Nm (cS A k)
     rw[← hd] at cX
     rw[← hd] at hset
     obtain⟨Y,hY⟩:=Nm (jB A k)
     rw[← hY] at hset hl a6
     replace hset:=Hy hset
     replace hd:=Hy hd
     replace hY:=Hy hY
     replace hs:=Hy hs
     go_upto_region 6 with ((with_reducible refine cR 3 a6 hl .i64 (d:Int) ?_ ?_ mS ?_);rfl;rfl;intro w4 a4 f4)
     rw[hset.out] at a4
     have aR4:=f4.av aR OM
     have a54:=f4.av a5 OM
     have b4:=bw.trans (f4.b (B:=w.heap.size) (fun k hk=>by have:=hHw.out;omega) bw.size)
     clear aR a5 a6 bw f4 cX
     go_wp2
     refine⟨⟨k+1,by omega,by go_num,fun h=>by omega,b4,aR4,a54,a4⟩,?_⟩
     simp[intOf]
     omega
    ·have t3:decide ((s:Int)<256)=false:=by simp;omega
     have hnx:=hsk.out k OM
     rw[hnx] at a6
     replace hs:=Hy hs
     clear hnx
     go_wp2
     refine⟨⟨k+1,by omega,by go_num,fun h=>by omega,bw,aR,a5,a6⟩,?_⟩
     simp[intOf]
     omega
   ·obtain rfl:k=256:=by omega
    have t1:decide ((256:Int)<256)=false:=by simp
    have lY:=Hy (eG A 256)
    have hHl:w.heap.size≤H+1:=by have:=hHw.out;omega
    go_wp2_with (first
     |((with_reducible refine mE 202 a6 ?_ _ 256 lY.out Tu ?_ ?_ ?_);rfl;rfl;kernel_rfl)
     |(go_at_call 94;refine(HN.out _).mono ?_;rintro e w8 ⟨rfl,b8⟩)
     |((with_reducible refine dR 158 (bw.trans (b8.mono bw.size)) (aR.b b8) hHl Z ?_ ?_ 4 lZ.out ?_ ?_ oZ.out ?_);rfl;rfl;kernel_rfl;rfl;intro w9 a9 b9 k9 z9;clear k9 z9))
    refine bodyPost_ret (results_cell_row rfl _ _ (H+1) _ _ (0,0) _ bM a9 SV rfl (by rw[List.size_toArray,lZ.out];kernel_rfl)) rfl ⟨rfl,b9⟩
  ·have t2:decide ((n:Int)<256)=false:=by simp;omega
   obtain rfl:k=0:=hk0 OM
   rw[← hend.out OM] at a6
   have lY:=Hy (eG A 256)
   have hHl:w.heap.size≤H+1:=by have:=hHw.out;omega
   go_wp2_with (first
    |((with_reducible refine mE 202 a6 ?_ _ 256 lY.out Tu ?_ ?_ ?_);rfl;rfl;kernel_rfl)
    |(go_at_call 94;refine(HN.out _).mono ?_;rintro e w8 ⟨rfl,b8⟩)
    |((with_reducible refine dR 158 (bw.trans (b8.mono bw.size)) (aR.b b8) hHl Z ?_ ?_ 4 lZ.out ?_ ?_ oZ.out ?_);rfl;rfl;kernel_rfl;rfl;intro w9 a9 b9 k9 z9;clear k9 z9))
   refine bodyPost_ret (results_cell_row rfl _ _ (H+1) _ _ (0,0) _ bM a9 SV rfl (by rw[List.size_toArray,lZ.out];kernel_rfl)) rfl ⟨rfl,b9⟩
theorem PW (a:Nat) (ha:a<2 ^ 256) (z:Int) (n:Nat) (hz:max z 0=(n:Int)) (hn:n≤4096) (w:World):
  Calls prog 124 #[.agg (uc a).toArray,.int .i64 z] w fun e w'=>e= .returned (.tuple #[.agg (uc (a*2 ^ n % 2 ^ 256)).toArray,.bool (decide (2 ^ 256≤a*2 ^ n))])∧Below w.heap.size w w':=by
 have hst:jB (a*2 ^ n) n=jB (a*2 ^ n) 0:=AX _ _ fun i hi=>AY a n i hi
 have hbit:∀ k,cS (a*2 ^ n) (k+n)=cS a k:=fun k=>IH a n k
 obtain⟨LF,hLF⟩:∃ LF:Nat→Bool,LF=fun k=>decide (2 ^ 256≤a % 2 ^ k*2 ^ n):=⟨_,rfl⟩
 have L0:LF 0=false:=by rw[hLF];simp[Nat.mod_one]
 have LN:∀ k,LF (k+1)=(LF k || (decide (256≤k+n) && cS a k==1)):=fun k=>by rw[hLF];exact GF a n k
 have LE:decide (2 ^ 256≤a*2 ^ n)=LF 256:=by rw[hLF];simp only[Nat.mod_eq_of_lt ha]
 rw[LE]
 replace L0:=Hy L0
 replace LN:=Hy LN
 clear LE hLF ha
 obtain⟨A,hA⟩:=Nm (a*2 ^ n)
 obtain⟨X,hX⟩:=Nm (jB a 256)
 obtain⟨V,hV⟩:=Nm (uc a)
 obtain⟨Z,hZ⟩:=Nm (uc (A % 2 ^ 256))
 rw[← hA] at hst hbit
 rw[← hA,← hV,← hZ]
 obtain⟨W,hW⟩:=Nm ((w.alloc (.cells V.toArray 158)).alloc (.cells #[.int .u64 0,.int .u64 0,.int .u64 0,.int .u64 0] 158))
 obtain⟨H,hH⟩:=Nm (w.heap.size)
 have bW:Below w.heap.size w W:=by rw[hW];exact((Below.refl _ _).alloc LR _).alloc zS _
 have aU:Av W H 158 V:=by rw[hW,hH];exact heap_alloc2_old _ _ _
 have aR:Av W (H+1) 158 [.int .u64 0,.int .u64 0,.int .u64 0,.int .u64 0]:=by rw[hW,hH];exact heap_alloc2_new _ _ _
 have lU:Hid (V.length=4):=Hy (by rw[hV];rfl)
 have lX:Hid (X.length=256):=Hy (by rw[hX];exact eG a 256)
 have oX:Hid (X.all (·.oneCell')=true):=Hy (by rw[hX];exact List.all_eq_true.2 (pG a 256))
 have zsz:Hid (zeroCells202.size=256):=Hy (by rw[rF 0,List.size_toArray,eG])
 have HD0:=pI a W
 rw[← hX,← hV] at HD0
 have HN0:=qK A
 rw[← hZ] at HN0
 have HD:=Hy HD0
 have HN:=Hy HN0
 have lZ:Hid (Z.length=4):=Hy (by rw[hZ];rfl)
 have oZ:Hid (Z.all (·.oneCell')=true):=Hy (by rw[hZ];rfl)
 replace hA:=Hy hA
 replace hX:=Hy hX
 replace hV:=Hy hV
 replace hZ:=Hy hZ
 replace hW:=Hy hW
 replace hH:=Hy hH
 clear HD0 HN0
 go_enter func124,ntmps124
 go_upto_region 1 with fail
 rw[← hW.out,← hH.out]
 go_upto_region 2 with fail
 go_upto_region 3 with (first
  |((with_reducible refine mE 158 aU ?_ _ 4 lU.out SV ?_ ?_ ?_);rfl;rfl;kernel_rfl)
  |(go_at_call 93;refine(HD.out).mono ?_;rintro e w1 ⟨rfl,b1⟩)
  |((with_reducible refine bF 202 ((Below.refl w1.heap.size w1).alloc LR _) (heap_alloc_new _ _) LR X ?_ ?_ 256 lX.out ?_ zsz.out oX.out ?_);rfl;rfl;kernel_rfl;intro w2 a5 b2 k2 z2;clear k2 z2))
 have b12:=b1.trans (b2.mono b1.size)
 have bw2:=bW.trans (b12.mono bW.size)
 have aR2:=aR.b b12
 obtain⟨g5,hg5⟩:=Nm (w1.heap.size)
 rw[← hg5] at a5 ⊢
 have hR5:H+1<g5:=by rw[hg5];exact Nat.lt_of_lt_of_le aR.lt b1.size
 replace hg5:=Hy hg5
 have a6:Av (w2.alloc (.cells zeroCells202 202)) w2.heap.size 202 (jB A n):=by rw[hst,Re A];exact heap_alloc_new _ _
 have b3:Below w2.heap.size w2 (w2.alloc (.cells zeroCells202 202)):=(Below.refl _ _).alloc LR _
 have bw3:=bw2.trans (b3.mono bw2.size)
 have aR3:=aR2.b b3
 have hg56:=a5.lt
 have a53:=a5.b b3
 obtain⟨w3,hw3⟩:=Nm (w2.alloc (.cells zeroCells202 202))
 obtain⟨g6,hg6⟩:=Nm (w2.heap.size)
 rw[← hw3,← hg6] at a6
 rw[← hw3] at bw3 aR3 a53
 rw[← hg6] at hg56
 replace hw3:=Hy hw3
 replace hg6:=Hy hg6
 have hHw:Hid (w.heap.size≤H):=Hy (by rw[hH.out];exact Nat.le_refl _)
 clear b1 b2 b3 b12 bw2 aR2 a5 aU aR bW HD
 have hX1:∀ k,k<256→X[k]? =some (.int .i64 (cS a k:Int)):=fun k h=>by rw[hX.out,kQ a 256 k h,if_pos h]
 replace hX1:=Hy hX1
 replace hbit:=Hy hbit
 replace hst:=Hy hst
 go_upto_region 6 with fail
 rw[← hw3.out,← hg6.out]
 go_loopw [8,9] (fun lv iv wr=>∃ k:Nat,k≤256∧iv= .int .i64 (k:Int)∧lv= .bool (LF k)∧Below w.heap.size w wr∧Av wr (H+1) 158 [.int .u64 0,.int .u64 0,.int .u64 0,.int .u64 0]∧Av wr g5 202 X∧Av wr g6 202 (jB A (k+n))) (fun _ iv _=>256 - (intOf iv).toNat)
 case atStart=>exact⟨0,by omega,rfl,by rw[L0.out],bw3,aR3,a53,by rw[Nat.zero_add];exact a6⟩
 case round=>
  clear bw3 aR3 a53 a6
  obtain⟨k,hk,rfl,rfl,bw,aR,a5,a6⟩:=hrel
  by_cases hlt:k<256
  ·have t1:decide ((k:Int)<256)=true:=by simp;omega
   have k0:(0:Int)≤(k:Int):=by omega
   have k1:(k:Int)<256:=by omega
   have cX:=a5.cell k _ (hX1.out k hlt)
   obtain⟨s,hs⟩:=Nm (k+n)
   have e1:IntKind.i64.wrap ((k:Int)+(n:Int))=(s:Int):=by rw[IntKind.wrap_i64];omega
   have hLN:=LN.out k
   have hb:=hbit.out k
   rw[← hs] at hLN hb a6
   obtain⟨d,hd⟩:=Nm (cS a k)
   rw[← hd] at hLN hb cX
   replace hd:=Hy hd
   obtain⟨F,hF⟩:=Nm (LF k)
   rw[← hF] at hLN ⊢
   replace hF:=Hy hF
   by_cases hs2:s<256
   ·have t3:decide ((s:Int)<256)=true:=by simp;omega
    have t2:decide ((n:Int)<256)=true:=by simp;omega
    have s0:(0:Int)≤(s:Int):=by omega
    have s1:(s:Int)<256:=by omega
    rw[decide_eq_false (by omega:¬ 256≤s),Bool.false_and,Bool.or_false] at hLN
    have hset:=AW A s hs2
    rw[hb] at hset
    have hl:s<(jB A s).length:=by rw[eG];exact hs2
    obtain⟨Y,hY⟩:=Nm (jB A s)
    rw[← hY] at hset hl a6
    replace hset:=Hy hset
    replace hY:=Hy hY
    replace hs:=Hy hs
    replace hLN:=Hy hLN
    clear hb
    go_upto_region 7 with ((with_reducible refine cR 3 a6 hl .i64 (d:Int) ?_ ?_ mS ?_);rfl;rfl;intro w4 a4 f4)
    rw[hset.out] at a4
    have aR4:=f4.av aR OM
    have a54:=f4.av a5 OM
    have b4:=bw.trans (f4.b (B:=w.heap.size) (fun k hk=>by have:=hHw.out;omega) bw.size)
    clear aR a5 a6 bw f4 cX
    go_wp2
    refine⟨⟨k+1,by omega,by go_num,by rw[hLN.out],b4,aR4,a54,by rw[show k+1+n=s+1 by have:=hs.out;omega];exact a4⟩,?_⟩
    simp[intOf]
    omega
   ·have t3:decide ((s:Int)<256)=false:=by simp;omega
    rw[decide_eq_true (by omega:256≤s),Bool.true_and] at hLN
    rw[LI A s OM,show s+1=k+1+n by omega] at a6
    replace hs:=Hy hs
    clear hb
    by_cases hn2:n<256
    ·have t2:decide ((n:Int)<256)=true:=by simp;omega
     cases F
     ·by_cases hd1:d=1
      ·subst hd1
       replace hLN:=Hy hLN
       go_wp2
       refine⟨⟨k+1,by omega,by go_num,by rw[hLN.out];rfl,bw,aR,a5,a6⟩,?_⟩
       simp[intOf]
       omega
      ·have t4:((d:Int)==1)=false:=by simp;omega
       have hLN2:LF (k+1)=false:=by rw[hLN];simp[hd1]
       replace hLN2:=Hy hLN2
       clear hLN
       go_wp2
       refine⟨⟨k+1,by omega,by go_num,by rw[hLN2.out],bw,aR,a5,a6⟩,?_⟩
       simp[intOf]
       omega
     ·have hLN2:LF (k+1)=true:=by rw[hLN];rfl
      replace hLN2:=Hy hLN2
      clear hLN
      go_wp2
      refine⟨⟨k+1,by omega,by go_num,by rw[hLN2.out],bw,aR,a5,a6⟩,?_⟩
      simp[intOf]
      omega
    ·have t2:decide ((n:Int)<256)=false:=by simp;omega
     cases F
     ·by_cases hd1:d=1
      ·subst hd1
       replace hLN:=Hy hLN
       go_wp2
       refine⟨⟨k+1,by omega,by go_num,by rw[hLN.out];rfl,bw,aR,a5,a6⟩,?_⟩
       simp[intOf]
       omega
      ·have t4:((d:Int)==1)=false:=by simp;omega
       have hLN2:LF (k+1)=false:=by rw[hLN];simp[hd1]
       replace hLN2:=Hy hLN2
       clear hLN
       go_wp2
       refine⟨⟨k+1,by omega,by go_num,by rw[hLN2.out],bw,aR,a5,a6⟩,?_⟩
       simp[intOf]
       omega
     ·have hLN2:LF (k+1)=true:=by rw[hLN];rfl
      replace hLN2:=Hy hLN2
      clear hLN
      go_wp2
      refine⟨⟨k+1,by omega,by go_num,by rw[hLN2.out],bw,aR,a5,a6⟩,?_⟩
      simp[intOf]
      omega
  ·obtain rfl:k=256:=by omega
   have t1:decide ((256:Int)<256)=false:=by simp
   rw[LQ A (256+n) OM] at a6
   obtain⟨F,hF⟩:=Nm (LF 256)
   rw[← hF]
   have lY:=Hy (eG A 256)
   have hHl:w.heap.size≤H+1:=by have:=hHw.out;omega
   go_wp2_with (first
    |((with_reducible refine mE 202 a6 ?_ _ 256 lY.out Tu ?_ ?_ ?_);rfl;rfl;kernel_rfl)
    |(go_at_call 94;refine(HN.out _).mono ?_;rintro e w8 ⟨rfl,b8⟩)
    |((with_reducible refine dR 158 (bw.trans (b8.mono bw.size)) (aR.b b8) hHl Z ?_ ?_ 4 lZ.out ?_ ?_ oZ.out ?_);rfl;rfl;kernel_rfl;rfl;intro w9 a9 b9 k9 z9;clear k9 z9))
   refine bodyPost_ret ((aK (C:=Z) bM bM a9 _ SV rfl 4 lZ.out KR).trans bM) bM ⟨by rw[← hF];rfl,b9⟩
theorem Sg (n:Nat) (h:n<18446744073709551616) (w:World):Calls prog 90 #[.int .u64 (n:Int)] w fun e w'=>e= .returned (.agg (uc n).toArray)∧Below w.heap.size w w':=by
 rw[qJ h]
 go_enter func90,ntmps90
 go_wp2_with ((with_reducible refine SN (fS n 0 0 0) 4 ?_ ?_ ?_);rfl;rfl;intro w6 a6 b6 k6 z6)
 refine bodyPost_ret (results_cell_row rfl _ _ w.heap.size _ _ (0,0) _ bM a6 SV rfl KR) rfl ⟨rfl,b6⟩
theorem Rq (a b:Nat) (ha:a<2 ^ 256) (hb:b<2 ^ 256) (w:World):
  Calls prog 125 #[.agg (uc a).toArray,.agg (uc b).toArray] w fun e w'=>e= .returned (.int .i64 (qE a b))∧Below w.heap.size w w':=by
 have C1:a<b→qE a b= -1:=Ba
 have C2:b<a→qE a b=1:=Bb
 have C3:a / 2 ^ 0=b / 2 ^ 0→qE a b=0:=fun h=>by
  rw[Nat.pow_zero,Nat.div_one,Nat.div_one] at h
  rw[h];exact uM b
 obtain⟨Z,hZ⟩:=Nm (qE a b)
 rw[← hZ] at C1 C2 C3 ⊢
 have h256:a / 2 ^ 256=b / 2 ^ 256:=by rw[Nat.div_eq_of_lt ha,Nat.div_eq_of_lt hb]
 obtain⟨VA,hVA⟩:=Nm (uc a)
 obtain⟨VB,hVB⟩:=Nm (uc b)
 obtain⟨X,hX⟩:=Nm (jB a 256)
 obtain⟨Y,hY⟩:=Nm (jB b 256)
 rw[← hVA,← hVB]
 obtain⟨W,hW⟩:=Nm ((w.alloc (.cells VA.toArray 158)).alloc (.cells VB.toArray 158))
 obtain⟨H,hH⟩:=Nm (w.heap.size)
 refine Xm82 ?_;intro bW
 have aA:Av W H 158 VA:=by rw[hW,hH];exact heap_alloc2_old _ _ _
 have aB:Av W (H+1) 158 VB:=by rw[hW,hH];exact heap_alloc2_new _ _ _
 have lA:Hid (VA.length=4):=Hy (by rw[hVA];rfl)
 have lB:Hid (VB.length=4):=Hy (by rw[hVB];rfl)
 have lX:Hid (X.length=256):=Hy (by rw[hX];exact eG a 256)
 have oX:Hid (X.all (·.oneCell')=true):=Hy (by rw[hX];exact List.all_eq_true.2 (pG a 256))
 have lY:Hid (Y.length=256):=Hy (by rw[hY];exact eG b 256)
 have oY:Hid (Y.all (·.oneCell')=true):=Hy (by rw[hY];exact List.all_eq_true.2 (pG b 256))
 have zsz:Hid (zeroCells202.size=256):=Hy (by rw[rF 0,List.size_toArray,eG])
 have HA:=pI a
 have HB:=pI b
 rw[← hX,← hVA] at HA
 rw[← hY,← hVB] at HB
 have cA:∀ j,j<256→X[j]? =some (.int .i64 (cS a j:Int)):=fun j h=>by rw[hX,kQ a 256 j h,if_pos h]
 have cB:∀ j,j<256→Y[j]? =some (.int .i64 (cS b j:Int)):=fun j h=>by rw[hY,kQ b 256 j h,if_pos h]
 replace HA:=Hy HA
 replace HB:=Hy HB
 replace hZ:=Hy hZ
 replace hX:=Hy hX
 replace hY:=Hy hY
 replace hVA:=Hy hVA
 replace hVB:=Hy hVB
 replace hW:=Hy hW
 replace hH:=Hy hH
 replace C1:=Hy C1
 replace C2:=Hy C2
 replace C3:=Hy C3
 replace cA:=Hy cA
 replace cB:=Hy cB
 replace h256:=Hy h256
 clear ha hb
 go_enter func125,ntmps125
 go_upto_region 1 with fail
 rw[← hW.out,← hH.out]
 go_upto_region 2 with (first
  |((with_reducible refine LF aA 4 lA.out SV ?_ ?_);rfl)
  |(go_at_call 93;refine(HA.out _).mono ?_;rintro e w1 ⟨rfl,bp1⟩)
  |((with_reducible refine SN X 256 ?_ ?_ ?_ (hn:=lX.out) (ho:=zsz.out) (h1:=oX.out));rfl;rfl;intro w2 a5 bp2 k2 z2;clear k2 z2))
 have bp:=bp1.trans (bp2.mono bp1.size)
 have bw2:=bW.trans (bp.mono bW.size)
 have aB2:=aB.b bp
 obtain⟨g5,hg5⟩:=Nm (w1.heap.size)
 rw[← hg5] at a5 ⊢
 replace hg5:=Hy hg5
 clear bp1 bp2 bp bW aA aB
 go_upto_region 3 with (first
  |((with_reducible refine LF aB2 4 lB.out SV ?_ ?_);rfl)
  |(go_at_call 93;refine(HB.out _).mono ?_;rintro e w3 ⟨rfl,bq1⟩)
  |((with_reducible refine SN Y 256 ?_ ?_ ?_ (hn:=lY.out) (ho:=zsz.out) (h1:=oY.out));rfl;rfl;intro w4 a6 bq2 k2 z2;clear k2 z2))
 have bq:=bq1.trans (bq2.mono bq1.size)
 have bw4:=bw2.trans (bq.mono bw2.size)
 have a54:=a5.b bq
 obtain⟨g6,hg6⟩:=Nm (w3.heap.size)
 rw[← hg6] at a6 ⊢
 replace hg6:=Hy hg6
 clear bq1 bq2 bq bw2 a5 aB2
 go_upto_region 4 with fail
 go_loopw [7] (fun iv wr=>∃ (k:Nat) (z:Int),k≤256∧iv= .int .i64 z∧z=(k:Int) - 1∧Hid (a / 2 ^ k=b / 2 ^ k)∧Below w.heap.size w wr∧Av wr g5 202 X∧Av wr g6 202 Y) (fun iv _=>(intOf iv+1).toNat)
 case atStart=>exact⟨256,255,by omega,rfl,by omega,h256,bw4,a54,a6⟩
 case round=>
  clear bw4 a54 a6 h256
  obtain⟨k,z,hk,rfl,hz,hs,bw,a5,a6⟩:=hrel
  by_cases hk0:k=0
  ·subst hk0
   obtain rfl:z= -1:=by omega
   have hZ0:=C3.out hs.out
   replace hZ0:=Hy hZ0
   clear hz
   go_wp2
   go_ret
   exact⟨by rw[hZ0.out];rfl,bw⟩
  ·obtain⟨j,rfl⟩:∃ j,k=j+1:=⟨k - 1,by omega⟩
   obtain rfl:z=(j:Int):=by omega
   have t1:decide ((0:Int)≤(j:Int))=true:=by simp
   have j0:(0:Int)≤(j:Int):=by omega
   have j1:(j:Int)<256:=by omega
   have c5:=a5.cell j _ (cA.out j OM)
   have c6:=a6.cell j _ (cB.out j OM)
   obtain⟨y1,y2⟩:=zO a b j hs.out
   obtain⟨_,y3⟩:=zO b a j hs.out.symm
   generalize cS a j=d1 at*
   generalize cS b j=d2 at*
   replace y1:=Hy y1
   replace y2:=Hy y2
   replace y3:=Hy y3
   clear hz hs hk0
   by_cases hl:d1<d2
   ·have tt:decide ((d1:Int)<(d2:Int))=true:=by simp;omega
    go_upto_region 6 with fail
    go_quiet (fail)
    have bd:=below_drewN (Below.refl wr.heap.size wr) nq
    generalize wr.drewN nq=wd at*
    go_wp2
    go_ret
    exact⟨by rw[C1.out (y2.out hl)];rfl,bw.trans (bd.mono bw.size)⟩
   ·have tt:decide ((d1:Int)<(d2:Int))=false:=by simp;omega
    go_upto_region 6 with fail
    go_quiet (fail)
    have bd:=below_drewN (Below.refl wr.heap.size wr) nq
    generalize wr.drewN nq=wd at*
    replace c5:=cell_later bd c5
    replace c6:=cell_later bd c6
    replace a5:=a5.b bd
    replace a6:=a6.b bd
    replace bw:=bw.trans (bd.mono bw.size)
    clear bd tt
    cases hg:decide ((d2:Int)<(d1:Int))
    all_goals
     go_upto_region 8 with fail
     go_quiet (fail)
     have bd:=below_drewN (Below.refl wd.heap.size wd) nq
     generalize wd.drewN nq=we at*
     replace a5:=a5.b bd
     replace a6:=a6.b bd
     replace bw:=bw.trans (bd.mono bw.size)
     simp at hg
    ·go_wp2
     exact⟨⟨j,(j:Int) - 1,by omega,by go_num,rfl,Hy (y1.out OM),bw,a5,a6⟩,by simp[intOf]⟩
    ·go_wp2
     go_ret
     exact⟨by rw[C2.out (y3.out hg)];rfl,bw⟩
end Go.Proofs.YtobjgebojhjhnaaGreatDoor
