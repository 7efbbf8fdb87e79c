import Derived.Test.YtobjgebojhjhnaaGreatDoorQr7
import Derived.Deep.QuietTactic
import Derived.BigQuiet
namespace Go.Proofs.YtobjgebojhjhnaaGreatDoor
set_option maxRecDepth 100000
set_option maxHeartbeats 16000000
open Go.RowKit Tryz
def qE (a b:Nat):Int:=if a<b then -1 else if b<a then 1 else 0
theorem uM (a:Nat):qE a a=0:=by simp[qE]
theorem Ba {a b:Nat} (h:a<b):qE a b= -1:=if_pos h
theorem Bb {a b:Nat} (h:b<a):qE a b=1:=by rw[qE,if_neg OM,if_pos h]
theorem II {n m j:Nat} (h:n / 18446744073709551616 ^ (j+1)=m / 18446744073709551616 ^ (j+1)):(lim n j=lim m j→n / 18446744073709551616 ^ j=m / 18446744073709551616 ^ j)∧(lim n j<lim m j→n<m)∧(lim m j<lim n j→m<n):=by
 rw[Nat.pow_succ,← Nat.div_div_eq_div_mul,← Nat.div_div_eq_div_mul] at h
 unfold lim
 refine⟨fun e=>by omega,fun e=>Nat.lt_of_not_le fun g=>?_,fun e=>Nat.lt_of_not_le fun g=>?_⟩
 all_goals have:=Nat.div_le_div_right (c:=18446744073709551616 ^ j) g;omega
theorem lL (n k:Nat) (hk:k<4):(uc n)[k]? =some (.int .u64 (lim n k:Int)):=by
 have h:k=0∨k=1∨k=2∨k=3:=by omega
 rcases h with rfl|rfl|rfl|rfl <;> rfl
theorem Xm82 {p q:Prop} (k:q) (h:Hid q→p:=by
 intro hk
 have bW:Below w.heap.size w W:=by rw[hW];exact((Below.refl _ _).alloc LR _).alloc zS _
 revert bW;exact hk.out):p:=h (Hy k)
theorem Rc (n m:Nat) (hn:n<115792089237316195423570985008687907853269984665640564039457584007913129639936) (hm:m<115792089237316195423570985008687907853269984665640564039457584007913129639936) (w:World):
  Calls prog 121 #[.agg (uc n).toArray,.agg (uc m).toArray] w fun e w'=>e= .returned (.int .i64 (qE n m))∧Below w.heap.size w w':=by
 obtain⟨W,hW⟩:=Nm ((w.alloc (.cells (uc n).toArray 151)).alloc (.cells (uc m).toArray 151))
 obtain⟨H,hH⟩:=Nm (w.heap.size)
 refine Xm82 ?_;intro bW
 have aW:Av W H 151 (uc n):=by rw[hW,hH];exact heap_alloc2_old _ _ _
 have cW:Av W (H+1) 151 (uc m):=by rw[hW,hH];exact heap_alloc2_new _ _ _
 obtain⟨R,hR⟩:=Nm (qE n m)
 have h4:n / 18446744073709551616 ^ 4=m / 18446744073709551616 ^ 4:=by rw[Nat.div_eq_of_lt OM,Nat.div_eq_of_lt OM]
 rw[← hR]
 replace hR:=Hy hR
 replace hW:=Hy hW
 replace hH:=Hy hH
 replace h4:=Hy h4
 go_enter func121,ntmps121
 go_upto_region 1 with fail
 rw[← hW.out,← hH.out]
 go_wp2
 go_loopw [5] (fun i wr=>∃ k:Nat,k≤4∧i= .int .i64 ((k:Int) - 1)∧Hid (n / 18446744073709551616 ^ k=m / 18446744073709551616 ^ k)∧Below W.heap.size W wr) (fun i _=>(intOf i+1).toNat)
 case atStart=>exact⟨4,by omega,rfl,h4,Below.refl _ _⟩
 case round=>
  obtain⟨k,hk,rfl,he,bwr⟩:=hrel
  cases k with
  |zero=>
   go_wp2
   go_ret
   have e:=he.out
   rw[Nat.pow_zero,Nat.div_one,Nat.div_one] at e
   exact⟨by rw[hR.out,e,uM];rfl,bW.trans (bwr.mono bW.size)⟩
  |succ j=>
   rw[show ((j+1:Nat):Int) - 1=(j:Int) by omega]
   obtain⟨p1,p2,p3⟩:=II he.out
   have c0:=(aW.b bwr).cell j _ (lL n j OM)
   have c1:=(cW.b bwr).cell j _ (lL m j OM)
   generalize lim n j=x at*
   generalize lim m j=y at*
   have k0:(0:Int)≤(j:Int):=by omega
   have k4:(j:Int)<4:=by omega
   replace p1:=Hy p1
   replace p2:=Hy p2
   replace p3:=Hy p3
   have fin:=fun wz (b:Below wr.heap.size wr wz)=>bW.trans ((bwr.trans (b.mono bwr.size)).mono bW.size)
   by_cases hl:x<y
   ·have t1:decide ((x:Int)<(y:Int))=true:=by simp;omega
    go_upto_region 4 with fail
    go_quiet (fail)
    have b1:=below_drewN (Below.refl wr.heap.size wr) nq
    generalize wr.drewN nq=wd at*
    go_wp2
    go_ret
    exact⟨by rw[hR.out,Ba (p2.out hl)];rfl,fin _ b1⟩
   ·have t1:decide ((x:Int)<(y:Int))=false:=by simp;omega
    go_upto_region 4 with fail
    go_quiet (fail)
    have b1:=below_drewN (Below.refl wr.heap.size wr) nq
    generalize wr.drewN nq=wd at*
    replace c0:=cell_later b1 c0
    replace c1:=cell_later b1 c1
    cases hg:decide ((y:Int)<(x:Int))
    all_goals
     go_upto_region 6 with fail
     go_quiet (fail)
     have b2:=below_drewN (Below.refl wd.heap.size wd) nq
     generalize wd.drewN nq=we at*
     replace b2:=b1.trans (b2.mono b1.size)
     simp at hg
    ·go_wp2
     exact⟨⟨j,by omega,by go_num,Hy (p1.out OM),bwr.trans (b2.mono bwr.size)⟩,by simp[intOf]⟩
    ·go_wp2
     go_ret
     exact⟨by rw[hR.out,Bb (p3.out hg)];rfl,fin _ b2⟩
end Go.Proofs.YtobjgebojhjhnaaGreatDoor
