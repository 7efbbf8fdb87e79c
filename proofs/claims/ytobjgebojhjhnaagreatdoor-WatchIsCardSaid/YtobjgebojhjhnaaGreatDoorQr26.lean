import Derived.Test.YtobjgebojhjhnaaGreatDoorRu
import Derived.Conc.MuLone
namespace Go.Proofs.YtobjgebojhjhnaaGreatDoor
set_option maxRecDepth 100000
set_option maxHeartbeats 16000000
open Go.RowKit Tryz
theorem Io (fl:List UInt8) (tot:Nat) (Ah:Option Addr) (nh ch:Nat) (Af:Option Addr) (nf cf R:Nat) (hs:List (List UInt8)) (hnh:hs.length=nh) (hnf:fl.length=nf) (hnf2:nf≤10000) (hnh2:nh≤10000) (w0:World) (hrh:Rd w0 Ah (eB hs)) (hrf:Rd w0 Af (fl.map bv)) (hBR:w0.heap.size≤R)
  (h:Int) (i d k:Nat) (hi:i≤5000) (hd8:d≤8*nf) (hk:k≤nh) (l:List (Nat × List UInt8)) (M:Value) (w:World) (hb:Below w0.heap.size w0 w) (hA:Av w R 178 (pV tot Ah nh ch Af nf cf d k M true)):
  Calls prog 74 #[.pointer (some ⟨R,0,none⟩),.int .i64 h,.int .i64 (i:Int)] w (eU tot Ah nh ch Af nf cf R w0 l w none):=by
 have _u:=And.intro hnh (And.intro hnh2 (And.intro hrh hrf))
 cases e:fX fl d with
 |none=>
  have hd:8*nf≤d:=by
   rcases Nat.lt_or_ge d (8*fl.length) with h1|h1
   ·rw[nF h1] at e;cases e
   ·omega
  exact Nc fl hs tot Ah nh ch Af nf cf R hnh hnf hnf2 zV w0 zV zV hBR i d k zV hk l M w hb hA h hd hd8
 |some b=>exact Nf fl hs tot Ah nh ch Af nf cf R hnh hnf hnf2 zV w0 zV hrf hBR i d k zV hk l M w hb hA h b e
theorem Xc124 {p:Prop} (h:p:=by
 have hd:8*nf≤d:=by
  rcases Nat.lt_or_ge d (8*fl.length) with h1|h1
  ·rw[nF h1] at e;cases e
  ·omega
 rw[KO e]
 exact Nb fl hs tot Ah nh ch Af nf cf R hnh hnf hnf2 zV w0 zV zV hBR i d k zV hk l M w hb hA ho _ hd hd8):p:=h
theorem Pr (fl:List UInt8) (hs:List (List UInt8)) (h32:dV hs) (tot:Nat) (Ah:Option Addr) (nh ch:Nat) (Af:Option Addr) (nf cf R:Nat) (hnh:hs.length=nh) (hnf:fl.length=nf) (hnf2:nf≤10000) (hnh2:nh≤10000) (ht0:0<tot) (ht:tot≤4096) (w0:World) (hrh:Rd w0 Ah (eB hs)) (hrf:Rd w0 Af (fl.map bv)) (hBR:w0.heap.size≤R):
  ∀ (h:Nat),h≤12→ ∀ (i d k:Nat),i<mN tot h→d≤8*nf→k≤nh→ ∀ (l:List (Nat × List UInt8)),l.length≤k→ ∀ (M:Value) (w:World),Below w0.heap.size w0 w→Av w R 178 (pV tot Ah nh ch Af nf cf d k M false)→w.ownsRow w0.heap.size 138 33 M l.length (rX l)→
  Calls prog 74 #[.pointer (some ⟨R,0,none⟩),.int .i64 (h:Int),.int .i64 (i:Int)] w (eU tot Ah nh ch Af nf cf R w0 l w (nW tot fl hs h i d k)):=by
 intro h
 induction h with
 |zero=>
  intro h12 i d k hiw hd8 hk l hlk M w hb hA ho
  have hi4:i<tot:=by rwa [Dm] at hiw
  cases e:fX fl d with
  |none=>
   exact Xc124
  |some b=>
   rw[DI (fun _=>rfl) e]
   cases ex:hs[k]? with
   |none=>
    have hkn:nh≤k:=by
     rcases Nat.lt_or_ge k nh with h1|h1
     ·rw[List.getElem?_eq_getElem OM] at ex;cases ex
     ·exact h1
    cases b with
    |false=>exact DJ fl hs tot Ah nh ch Af nf cf R hnh hnf hnf2 zV w0 zV hrf hBR i d k zV hk l M w hb hA ho e hkn
    |true=>exact DL fl hs tot Ah nh ch Af nf cf R hnh hnf hnf2 zV w0 zV hrf hBR i d k zV hk l M w hb hA ho e hkn
   |some x=>
    cases b with
    |false=>exact KT fl hs tot Ah nh ch Af nf cf R hnh hnf hnf2 hnh2 w0 hrh hrf hBR i d k zV zV l M w hb hA ho e h32 x ex
    |true=>exact KV fl hs tot Ah nh ch Af nf cf R hnh hnf hnf2 hnh2 w0 hrh hrf hBR i d k zV zV l M w hb hA ho e hlk h32 x ex
 |succ h ih=>
  intro h12 i d k hiw hd8 hk l hlk M w hb hA ho
  have hi4:i≤4096:=by have:=Fa tot (h+1) ht0;omega
  have hws:=xQ tot h
  rw[show ((h+1:Nat):Int)=(h:Int)+1 by omega]
  cases e:fX fl d with
  |none=>
   exact Xc124
  |some b=>
   cases b with
   |false=>
    rw[DI (fun h=>by cases h) e]
    cases ex:hs[k]? with
    |none=>
     have hkn:nh≤k:=by
      rcases Nat.lt_or_ge k nh with h1|h1
      ·rw[List.getElem?_eq_getElem OM] at ex;cases ex
      ·exact h1
     exact DK fl hs tot Ah nh ch Af nf cf R hnh hnf hnf2 zV w0 zV hrf hBR i d k zV hk l M w hb hA ho e h hkn
    |some x=>exact KU fl hs tot Ah nh ch Af nf cf R hnh hnf hnf2 hnh2 w0 hrh hrf hBR i d k zV zV l M w hb hA ho e h h32 x ex
   |true=>
    rw[KP e]
    have jM:=dM e
    have HV1:=fun w' b1 a1 o1=>ih OM (2*i) (d+1) k OM OM hk l hlk M w' b1 a1 o1
    rw[show ((2*i:Nat):Int)=2*(i:Int) by omega] at HV1
    cases e1:nW tot fl hs h (2*i) (d+1) k with
    |none=>
     rw[e1] at HV1
     by_cases hw:2*i+1<mN tot h
     ·have hwl:=Fa tot h ht0
      have HB:=fun (w':World) (d2 k2:Nat) (M2:Value) hd2 hk2 b2 a2=>Io fl tot Ah nh ch Af nf cf R hs hnh hnf hnf2 hnh2 w0 hrh hrf hBR (h:Int) (2*i+1) d2 k2 OM hd2 hk2 l M2 w' b2 a2
      rw[show ((2*i+1:Nat):Int)=2*(i:Int)+1 by omega] at HB
      exact DO fl hs tot Ah nh ch Af nf cf R hnh hnf hnf2 zV w0 zV hrf hBR i d k OM zV l M w hb hA ho h h12 ht e HV1 HB hw
     ·exact DN fl hs tot Ah nh ch Af nf cf R hnh hnf hnf2 zV w0 zV hrf hBR i d k OM zV l M w hb hA ho h h12 ht e HV1 hw
    |some r=>
     obtain⟨x,lx,dx,kx⟩:=r
     have hbd:=kV tot fl hs h32 h (2*i) (d+1) k _ e1
     dsimp only at hbd
     obtain⟨q1,q2,q3,q4,q5,x32,q7⟩:=hbd
     rw[e1] at HV1
     rw[Option.bind_some]
     dsimp only
     by_cases hw:2*i+1<mN tot h
     ·rw[if_pos hw]
      have HV2:=fun (w':World) (M2:Value) b2 a2 o2=>ih OM (2*i+1) dx kx hw OM OM (l++lx) (by rw[List.length_append];omega) M2 w' b2 a2 o2
      rw[show ((2*i+1:Nat):Int)=2*(i:Int)+1 by omega] at HV2
      cases e2:nW tot fl hs h (2*i+1) dx kx with
      |none=>
       rw[e2] at HV2
       exact zL fl hs tot Ah nh ch Af nf cf R hnh hnf hnf2 zV w0 zV hrf hBR i d k OM zV l M w hb hA ho h h12 ht e x x32 lx dx kx HV1 HV2 hw
      |some s=>
       obtain⟨y,ly,dy,ky⟩:=s
       have hbd2:=kV tot fl hs h32 h (2*i+1) dx kx _ e2
       dsimp only at hbd2
       obtain⟨s1,s2,s3,s4,s5,y32,s7⟩:=hbd2
       rw[e2] at HV2
       rw[Option.bind_some]
       dsimp only
       have hdy:dy≤8*nf:=by omega
       have hky:ky≤nh:=by omega
       by_cases hxy:x=y
       ·rw[if_pos hxy]
        exact KW fl hs tot Ah nh ch Af nf cf R hnh hnf hnf2 zV w0 zV hrf hBR i d k OM zV l M w hb hA ho h h12 ht e x x32 lx dx kx y y32 ly dy ky hdy hky hxy HV1 HV2 hw
       ·rw[if_neg hxy]
        exact Pq fl hs tot Ah nh ch Af nf cf R hnh hnf hnf2 zV w0 zV hrf hBR i d k OM zV l M w hb hA ho h h12 ht e x x32 lx dx kx y y32 ly dy ky hxy HV1 HV2 hw
     ·rw[if_neg hw]
      exact Pp fl hs tot Ah nh ch Af nf cf R hnh hnf hnf2 zV w0 zV hrf hBR i d k OM zV l M w hb hA ho h h12 ht e x x32 lx dx kx HV1 hw
open Go.RowKit Go.Shelf
attribute [local go_sem] Oper.semAt_some
def SQ (ps:List (Option Addr × Nat)) (ls:List (List (List UInt8))):List Value:=List.zipWith (fun (p:Option Addr × Nat) (x:List (List UInt8))=>Value.slice p.1 x.length p.2) ps ls
def Cc (w:World) (ps:List (Option Addr × Nat)) (ls:List (List (List UInt8))):Prop:=
 ps.length=ls.length∧ ∀ (i:Nat) (p:Option Addr × Nat) (x:List (List UInt8)),ps[i]? =some p→ls[i]? =some x→Rd w p.1 (eB x)∧x.length≤p.2
theorem Cc.keep {w w':World} {ps:List (Option Addr × Nat)} {ls:List (List (List UInt8))} (h:Cc w ps ls) (hk:∀ p ∈ ps,∀ xs,Rd w p.1 xs→Rd w' p.1 xs):Cc w' ps ls:=
 ⟨h.1,fun i p x hp hx=>⟨hk p (List.mem_of_getElem? hp) _ (h.2 i p x hp hx).1,(h.2 i p x hp hx).2⟩⟩
theorem Cc.b {w w':World} {ps:List (Option Addr × Nat)} {ls:List (List (List UInt8))} (h:Cc w ps ls) (hb:Below w.heap.size w w'):Cc w' ps ls:=
 h.keep fun _ _ _ hr=>hr.b hb
theorem Cc.snoc {w:World} {ps:List (Option Addr × Nat)} {ls:List (List (List UInt8))} (h:Cc w ps ls) {A:Option Addr} {c:Nat} {x:List (List UInt8)} (hr:Rd w A (eB x)) (hc:x.length≤c):Cc w (ps++ [(A,c)]) (ls++ [x]):=by
 refine⟨by simp[h.1],fun i p y hp hy=>?_⟩
 rcases Nat.lt_or_ge i ps.length with hi|hi
 ·rw[List.getElem?_append_left hi] at hp
  rw[List.getElem?_append_left (by rw[← h.1];exact hi)] at hy
  exact h.2 i p y hp hy
 ·rw[List.getElem?_append_right hi] at hp
  rw[List.getElem?_append_right (by rw[← h.1];exact hi)] at hy
  obtain⟨hi0,rfl⟩:i - ps.length=0∧(A,c)=p:=by
   cases hk:i - ps.length with
   |zero=>rw[hk] at hp;exact⟨rfl,by simpa using hp⟩
   |succ k=>rw[hk] at hp;simp at hp
  rw[← h.1,hi0] at hy
  obtain rfl:x=y:=by simpa using hy
  exact⟨hr,hc⟩
end Go.Proofs.YtobjgebojhjhnaaGreatDoor
namespace Go.Proofs.YtobjgebojhjhnaaGreatDoor
open Go.RowKit
attribute [local go_sem high] eO gO gP
def QM (x:UInt8) (j:Nat):UInt8:=UInt8.ofNat (x.toNat |||2 ^ j)
def Pt (fl:List UInt8) (k:Nat):List UInt8:=if k % 8=0 then fl++ [0] else fl
def RX (fl:List UInt8) (k:Nat) (d:Bool):List UInt8:=if d then (Pt fl k).set (k / 8) (QM ((Pt fl k).getD (k / 8) 0) (k % 8)) else Pt fl k
def QN:List Bool→Nat→List UInt8→List UInt8
 | [],_,fl=>fl
 |d :: ds,k,fl=>QN ds (k+1) (RX fl k d)
def Fe (ds:List Bool):List UInt8:=QN ds 0 []
theorem nO.ofBelow {T:TypeId} {w w':World} (h:Below w.heap.size w w'):nO T w w':=⟨h.os,h.tape,h.output,h.size,fun k _ _ e=>h.block k (Array.getElem?_eq_some_iff.1 e).1⟩
theorem nO.trans {T:TypeId} {a b c:World} (h:nO T a b) (k:nO T b c):nO T a c:=
 ⟨k.os.trans h.os,k.tape.trans h.tape,k.output.trans h.output,Nat.le_trans h.size k.size,fun i cs fz e=>(k.block i cs fz ((h.block i cs fz e).trans e)).trans (h.block i cs fz e)⟩
theorem nO.ofFr {T t:TypeId} {w w':World} {g:Nat} {l:List Value} (ha:Av w g t l) (ht:t≠T) (h:Fr (fun j=>j=g) w w'):nO T w w':=
 ⟨h.os,h.tape,h.output,h.size,fun k cs fz e=>h.block k (Array.getElem?_eq_some_iff.1 e).1 fun hk=>by
  subst hk
  unfold Av at ha
  rw[ha] at e
  injection Option.some.inj e with _ h2
  exact ht h2⟩
theorem nO.ofGrown {T t:TypeId} {w w':World} {B size n:Nat} {v:Value} {xs:List Value} (ho:w.ownsRow B t size v n xs) (ht:t≠T) (h:w.grownBy w' v.ownBlock):nO T w w':=
 ⟨h.os,h.tape,h.output,h.size,fun k cs fz e=>h.block k (Array.getElem?_eq_some_iff.1 e).1 fun e2=>by
  rcases ho.2 with ⟨h1,_⟩|⟨g,cap,cur,e1,e2',e3,_⟩
  ·rw[h1] at e2;simp[Value.ownBlock] at e2
  ·have:g=k:=by rw[e1] at e2;simpa [Value.ownBlock] using e2.symm
   subst this
   rw[e3] at e
   injection Option.some.inj e with _ h2
   exact ht h2⟩
def RY (ls:List (List (List UInt8))) (s:List PV):List (List UInt8):=(s.filter PV.told).map fun x=>(ls.getD x.h []).getD x.i []
def SR (w1:World) (ls:List (List (List UInt8))) (D T tot:Nat) (s:List PV) (w:World):Prop:=
 Below w1.heap.size w1 w∧∃ vh vf,Av w D 3 [.int .i64 (s.length:Int)]∧Av w T 125 [.int .u32 (tot:Int),vh,vf]∧w.ownsRow w1.heap.size 35 32 vh (RY ls s).length (eB (RY ls s))∧w.ownsRow w1.heap.size 5 1 vf (Fe (s.map PV.d)).length ((Fe (s.map PV.d)).map bv)
end Go.Proofs.YtobjgebojhjhnaaGreatDoor
namespace Go.Proofs.YtobjgebojhjhnaaGreatDoor
open Go.RowKit
attribute [local go_sem high] eO gO gP
def QO (n:Nat) (ms:List Bool):List PV:=Na n ms (xT n) 0
def Pu (n:Nat) (ms:List Bool):List UInt8:=Fe ((QO n ms).map PV.d)
def Pv (hs:List (List UInt8)) (ms:List Bool):List (List UInt8):=RY (SC hs) (QO hs.length ms)
theorem Ng (n:Nat) (hn0:0<n):0<mN n (xT n):=by
 have hp:0<2 ^ xT n:=Nat.pow_pos OM
 unfold mN
 exact Nat.div_pos OM hp
def RZ (hs:List (List UInt8)) (ms:List Bool) (w0:World) (e:Ending) (w':World):Prop:=
 Below w0.heap.size w0 w'∧if hs.length=0∨4096<hs.length then e= .returned (.tuple #[.agg (qG 0 none 0 0 none 0 0).toArray,.bool false]) else
  ∃ Ah ch Af cf,e= .returned (.tuple #[.agg (qG hs.length Ah (Pv hs ms).length ch Af (Pu hs.length ms).length cf).toArray,.bool true])∧(Pv hs ms).length≤ch∧(Pu hs.length ms).length≤cf∧Rd w' Ah (eB (Pv hs ms))∧Rd w' Af ((Pu hs.length ms).map bv)∧(∀ a,Ah=some a→w0.heap.size≤a.block)∧(∀ a,Af=some a→w0.heap.size≤a.block)
end Go.Proofs.YtobjgebojhjhnaaGreatDoor
namespace Go.Proofs.YtobjgebojhjhnaaGreatDoor
set_option maxRecDepth 100000
set_option maxHeartbeats 16000000
open Go.RowKit Tryz
theorem Ip (tot:Nat) (Ah:Option Addr) (nh ch:Nat) (Af:Option Addr) (nf cf:Nat):prog.built 178 [(0,.agg (qG tot Ah nh ch Af nf cf).toArray),(1,.int .i64 (tot:Int))]=some (pV tot Ah nh ch Af nf cf 0 0 (.slice none 0 0) false).toArray:=by
 kernel_rfl
theorem Xc21 {p:Prop} (h:p:=by
 go_enter func51,ntmps51
 go_upto_region 1 with fail
 rw[← hT1.out]
 rw[show T+1=G by rw[hT1.out,hG.out]]
 rw[← hW.out]
 go_wp2_with (first
  |((with_reducible refine wpList_build (.agg (bV.map bv).toArray) ?_ ?_);(go_simp;first|done|rfl))
  |((with_reducible refine SF bW aG hGw (bV.map bv) 32 ?_ ?_ ?_ (h1:=hzone.out));rfl;rfl;intro w9 a9 b9 k9 z9))
 refine bodyPost_ret (v:=.tuple #[.agg (cK bV),.slice none 0 0,.int .i64 13]) ((cC (C:=bV.map bv) bM bM a9 _ SS rfl 32 rfl KR).trans bM) bM ⟨b9,rfl⟩):p:=h
theorem Xm14 {p q:Prop} (k:q) (h:Hid q→p:=by
 intro hk
 have _u:=And.intro h32 (And.intro hrh (And.intro hrf (And.intro hnh (And.intro hnf htb))))
 have hz:=eK
 rw[show List.replicate 32 (0:UInt8)=bV from rfl] at hz
 obtain⟨T,hT1⟩:=Nm (w.heap.size)
 obtain⟨G,hG⟩:=Nm (w.heap.size+1)
 obtain⟨W,hW⟩:=Nm ((w.alloc (.cells (qG tot Ah nh ch Af nf cf).toArray 137)).alloc (.cells (bV.map bv).toArray 35))
 have bW:Below w.heap.size w W:=by rw[hW];exact((Below.refl _ _).alloc LR _).alloc zS _
 have aT:Av W T 137 (qG tot Ah nh ch Af nf cf):=by rw[hW,hT1];exact Av.newer w (qG tot Ah nh ch Af nf cf) _ _
 have aG:Av W G 35 (bV.map bv):=by rw[hW,hG,← World.size_alloc w (.cells (qG tot Ah nh ch Af nf cf).toArray 137)];exact Av.new _ _ _
 have hGw:w.heap.size≤G:=by omega
 have hzone:(bV.map bv).all (·.oneCell')=true:=rfl
 have sW:W.heap.size=w.heap.size+2:=by rw[hW];simp
 have c0:=aT.cell 0 _ rfl
 have c1:=aT.cell 1 _ rfl
 have c2:=aT.cell 2 _ rfl
 revert _u hz T hT1 G hG W hW bW aT aG hGw hzone sW c0 c1 c2;exact hk.out):p:=h (Hy k)
theorem QP (fl:List UInt8) (hs:List (List UInt8)) (h32:dV hs) (tot:Nat) (Ah:Option Addr) (nh ch:Nat) (Af:Option Addr) (nf cf:Nat) (hnh:hs.length=nh) (hnf:fl.length=nf) (htb:tot<4294967296) (hnf2:nf≤10000) (_:nh≤10000) (hm:vP tot hs fl=false) (w:World)
  (hrh:Rd w Ah (eB hs)) (hrf:Rd w Af (fl.map bv)):
  Calls prog 51 #[.agg (qG tot Ah nh ch Af nf cf).toArray] w (mO w none):=by
 refine Xm14 ?_;intro _u hz T hT1 G hG W hW bW aT aG hGw hzone sW c0 c1 c2
 have hm':¬ (tot≠0∧tot≤4096∧nh≤tot∧nh≤8*nf):=by
  rw[← hnh,← hnf]
  exact of_decide_eq_false hm
 replace hm:=Hy hm
 have w8:IntKind.i64.wrap (8*(nf:Int))=8*(nf:Int):=by rw[IntKind.wrap_i64];omega
 have wt:IntKind.i64.wrap (tot:Int)=(tot:Int):=by rw[IntKind.wrap_i64];omega
 replace hW:=Hy hW
 replace hT1:=Hy hT1
 replace hG:=Hy hG
 replace hzone:=Hy hzone
 replace hnh:=Hy hnh
 replace hnf:=Hy hnf
 replace sW:=Hy sW
 clear _u
 by_cases h0:tot=0
 ·have t0:((tot:Int)==0)=true:=by simp;omega
  clear hm'
  replace h0:=Hy h0
  exact Xc21
 have t0:((tot:Int)==0)=false:=by simp;omega
 by_cases h1:4096<tot
 ·have t1:decide ((4096:Int)<(tot:Int))=true:=decide_eq_true OM
  clear hm'
  exact Xc21
 have t1:decide ((4096:Int)<(tot:Int))=false:=decide_eq_false OM
 by_cases h2:tot<nh
 ·have t2:decide ((tot:Int)<(nh:Int))=true:=decide_eq_true OM
  clear hm'
  exact Xc21
 have t2:decide ((tot:Int)<(nh:Int))=false:=decide_eq_false OM
 have t3:decide (8*(nf:Int)<(nh:Int))=true:=decide_eq_true OM
 clear hm'
 exact Xc21
def Cd (fl:List UInt8) (nf c:Nat):Bool:=(List.range (8*nf - c)).all fun j=>fX fl (c+j)!=some true
theorem KX (fl:List UInt8) (nf c:Nat) (h:8*nf≤c):Cd fl nf c=true:=by
 unfold Cd
 rw[Nat.sub_eq_zero_of_le h]
 rfl
theorem Iq (fl:List UInt8) (nf c:Nat) (b:Bool) (h:c<8*nf) (hb:fX fl c=some b):Cd fl nf c=(!b && Cd fl nf (c+1)):=by
 unfold Cd
 rw[show 8*nf - c=(8*nf - (c+1))+1 by omega,List.range_succ_eq_map,List.all_cons,List.all_map]
 congr 1
 ·rw[Nat.add_zero,hb]
  cases b <;> rfl
 ·congr 1
  funext j
  simp only[Function.comp_apply,Nat.succ_eq_add_one]
  rw[show c+(j+1)=c+1+j by omega]
theorem Ir (fl:List UInt8) (nf d:Nat) (h:(d+7) / 8=nf):Cd fl nf d=qV fl d:=by
 unfold Cd qV
 rw[show 8*nf - d=(8 - d % 8) % 8 by omega]
def uG (w:World) (a:Addr):Nat:=match w.cell? a with|some (.int _ z)=>z.toNat|_=>0
theorem yI {w:World} {a:Addr} {k:IntKind} {z:Int} (h:w.cell? a=some (.int k z)):uG w a=z.toNat:=by
 unfold uG
 rw[h]
theorem Xc20 {p:Prop} (h:p:=by
 go_wp2_with fail
 refine ZR ?_
 refine ZM ?_
 refine ZP (c:=.bool false) vR ?_
 refine ZM ?_
 refine ZS ?_
 refine ZS ?_
 refine ZS ?_
 refine ZS ?_
 refine ZS ?_
 refine ZS ?_
 refine ZS ?_
 refine ZS ?_
 refine ZS ?_
 refine nJ cI.refl rfl rfl rfl rfl _ _ _ rfl rfl (c:=.bool false) rfl zZ ?_
 refine bO fun w6 hw6=>aF ?_
 have e6:=hw6.drew
 have g6:=g5.b e6
 have b6:=b5.trans (e6.mono b5.size)
 go_wp2_with (first
  |((with_reducible refine wpList_build (.agg (bV.map bv).toArray) ?_ ?_);(go_simp;first|done|rfl))
  |((with_reducible refine SF b6 g6 hGw (bV.map bv) 32 ?_ ?_ ?_ (h1:=hzone.out));rfl;rfl;intro w9 a9 b9 k9 z9))
 refine bodyPost_ret (v:=.tuple #[.agg (cK bV),.slice none 0 0,.int .i64 13]) ((cC (C:=bV.map bv) bM bM a9 _ SS rfl 32 rfl KR).trans bM) bM ⟨b9,rfl⟩):p:=h
theorem Pw (fl:List UInt8) (hs:List (List UInt8)) (h32:dV hs) (tot:Nat) (Ah:Option Addr) (nh ch:Nat) (Af:Option Addr) (nf cf:Nat) (hnh:hs.length=nh) (hnf:fl.length=nf) (htb:tot<4294967296) (hnf2:nf≤10000) (hnh2:nh≤10000) (hm:vP tot hs fl=true) (hrd:nW tot fl hs (xT tot) 0 0 0=none) (w:World)
  (hrh:Rd w Ah (eB hs)) (hrf:Rd w Af (fl.map bv)):
  Calls prog 51 #[.agg (qG tot Ah nh ch Af nf cf).toArray] w (mO w none):=by
 refine Xm14 ?_;intro _u hz T hT1 G hG W hW bW aT aG hGw hzone sW c0 c1 c2
 have may:tot≠0∧tot≤4096∧nh≤tot∧nh≤8*nf:=by
  rw[← hnh,← hnf]
  exact of_decide_eq_true hm
 have ht0:0<tot:=by omega
 have ht:tot≤4096:=may.2.1
 have t0:((tot:Int)==0)=false:=by simp;omega
 have t1:decide ((4096:Int)<(tot:Int))=false:=decide_eq_false OM
 have t2:decide ((tot:Int)<(nh:Int))=false:=decide_eq_false OM
 have t3:decide (8*(nf:Int)<(nh:Int))=false:=decide_eq_false OM
 have h2n:¬ (tot<nh):=by omega
 have h3n:¬ (8*nf<nh):=by omega
 have w8:IntKind.i64.wrap (8*(nf:Int))=8*(nf:Int):=by rw[IntKind.wrap_i64];omega
 have wt:IntKind.i64.wrap (tot:Int)=(tot:Int):=by rw[IntKind.wrap_i64];omega
 obtain⟨R,hR⟩:=Nm (W.heap.size)
 obtain⟨W2,hW2⟩:=Nm (W.alloc (.cells (pV tot Ah nh ch Af nf cf 0 0 (.slice none 0 0) false).toArray 178))
 have bW2:Below W.heap.size W W2:=by rw[hW2];exact(Below.refl _ _).alloc LR _
 have aR2:Av W2 R 178 (pV tot Ah nh ch Af nf cf 0 0 (.slice none 0 0) false):=by rw[hW2,hR];exact heap_alloc_new _ _
 have aT2:=aT.b bW2
 have aG2:=aG.b bW2
 have b2:=bW.trans (bW2.mono bW.size)
 have hRw:w.heap.size≤R:=by omega
 have hTR:T≠R:=by omega
 have hGR:G≠R:=by omega
 have hTG:T≠G:=by omega
 have hTw:w.heap.size≤T:=by omega
 obtain⟨q1,q2,q3⟩:=xU tot ht
 have HHt:=fun w'=>MZ tot (xT tot) q1 (fun j hj=>by rw[qW tot j ht OM];have:=q2 j hj;omega) (by rw[qW tot _ ht q1];omega) w'
 have HV:=Pr fl hs h32 tot Ah nh ch Af nf cf R hnh hnf hnf2 hnh2 ht0 ht w hrh hrf hRw (xT tot) q1 0 0 0 (Ng tot ht0) OM OM [] LR (.slice none 0 0) W2 b2 aR2 (World.ownsRow_nil _ _ _ _)
 rw[hrd] at HV
 generalize xT tot=hgt at*
 have hbl:=Ip tot Ah nh ch Af nf cf
 have c3:=aR2.cell 3 _ rfl
 replace HHt:=Hy HHt
 replace HV:=Hy HV
 replace hm:=Hy hm
 replace hrd:=Hy hrd
 replace may:=Hy may
 replace hR:=Hy hR
 replace hW2:=Hy hW2
 replace hbl:=Hy hbl
 replace q2:=Hy q2
 replace hW:=Hy hW
 replace hT1:=Hy hT1
 replace hG:=Hy hG
 replace hzone:=Hy hzone
 replace hnh:=Hy hnh
 replace hnf:=Hy hnf
 replace sW:=Hy sW
 clear _u
 go_enter func51,ntmps51
 go_upto_region 1 with fail
 rw[← hT1.out]
 rw[show T+1=G by rw[hT1.out,hG.out]]
 rw[← hW.out]
 go_upto_region 4 with (first
  |((with_reducible refine LH aT 3 underlying137 ?_ ?_);rfl)
  |fail)
 rw[show W.alloc (.cells #[Value.int .u32 (tot:Int),Value.slice Ah nh ch,Value.slice Af nf cf,Value.int .i64 (tot:Int),Value.int .i64 0,Value.int .i64 0,Value.slice none 0 0,Value.bool false] 178)=W2 from hW2.out.symm,← hR.out]
 go_wp2_with (go_at_call 75;refine(HHt.out _).mono ?_;rintro e w' ⟨rfl,hw'⟩;obtain rfl:=hw'.symm)
 refine HV.out.mono ?_
 rintro e w3 ⟨b3,K3,rfl,d3,k3,M3,hd3,hk3,a3⟩
 have t3':=K3.av aT2 DC hTR
 have g3:=K3.av aG2 DC hGR
 have xv:(bV.map bv).length=32:=rfl
 have xone:(bV.map bv).all (·.oneCell')=true:=rfl
 replace xv:=Hy xv
 replace xone:=Hy xone
 clear c0 c1 c2 c3 aT2 aG2 aR2 bW2 HV HHt
 go_upto_region 5 with ((with_reducible refine bF 35 (b3.alloc b3.size (.cells (bV.map bv).toArray 35)) (heap_alloc_new _ _) b3.size (bV.map bv) ?_ ?_ 32 xv.out ?_ ?_ ?_ ?_);rfl;rfl;kernel_rfl;rfl;exact xone.out;intro w4 x4 b4 k4 z4)
 have hsz4:w3.heap.size<w4.heap.size:=x4.lt
 have hR3:=a3.lt
 have hT3:=t3'.lt
 have hG3:=g3.lt
 have a4:=(a3.alloc (.cells (bV.map bv).toArray 35)).same (k4 R OM)
 have t4':=(t3'.alloc (.cells (bV.map bv).toArray 35)).same (k4 T OM)
 have g4:=(g3.alloc (.cells (bV.map bv).toArray 35)).same (k4 G OM)
 refine ZR ?_
 refine ZM ?_
 refine ZQ ?_
 refine ZQ ?_
 refine ZP (c:=.bool true) (fun w hw=>by have:=(a4.b hw.drew).cell 7 _ rfl;go_simp;first|done|rfl) ?_
 refine ZM ?_
 refine ZS ?_
 refine ZS ?_
 refine ZS ?_
 refine ZS ?_
 refine ZS ?_
 refine ZS ?_
 refine ZS ?_
 refine ZS ?_
 refine nJ cI.refl rfl rfl rfl rfl _ _ _ rfl rfl (c:=.bool true) rfl zZ ?_
 refine ZM ?_
 refine ZS ?_
 refine ZS ?_
 refine ZS ?_
 refine ZS ?_
 refine ZS ?_
 refine ZS ?_
 refine ZS ?_
 refine ZS ?_
 refine ZS ?_
 refine ZS ?_
 refine nJ cI.refl rfl rfl rfl rfl _ _ _ rfl rfl (c:=.bool true) rfl zZ ?_
 refine ZM ?_
 refine bO fun w5 hw5=>aF ?_
 have e5:=hw5.drew
 have g5:=g4.b e5
 have b5:=b4.trans (e5.mono b4.size)
 go_wp2
 go_loopw [7] (fun b wr=>∃ c:Nat,c=0∧b= .bool true∧Below w.heap.size w wr∧Av wr G 35 (bV.map bv)) (fun _ _=>0)
 case atStart=>exact⟨0,rfl,rfl,b5,g5⟩
 case round=>
  clear b5 g5
  obtain⟨_,_,rfl,b5,g5⟩:=hrel
  exact Xc20
theorem Xm125 {p q:Prop} (k:q) (h:Hid q→p:=by
 intro hk
 have xb:=kV tot fl hs h32 _ _ _ _ _ hrd
 have xv:(x.map bv).length=32:=by rw[List.length_map];exact xb.2.2.2.2.2.1
 have xone:(x.map bv).all (·.oneCell')=true:=List.all_eq_true.2 (dB x)
 have hd8:d≤8*nf:=by rw[← hnf];exact xb.2.1
 have hkn:k≤nh:=by rw[← hnh];exact xb.2.2.2.1
 replace xv:=Hy xv
 replace xone:=Hy xone
 replace xb:=Hy xb
 revert hd8 hkn xv xone xb;exact hk.out):p:=h (Hy k)
theorem Nh (fl:List UInt8) (hs:List (List UInt8)) (h32:dV hs) (tot:Nat) (Ah:Option Addr) (nh ch:Nat) (Af:Option Addr) (nf cf:Nat) (hnh:hs.length=nh) (hnf:fl.length=nf) (htb:tot<4294967296) (hnf2:nf≤10000) (hnh2:nh≤10000) (hm:vP tot hs fl=true) (x:List UInt8) (l:List (Nat × List UInt8)) (d k:Nat) (hrd:nW tot fl hs (xT tot) 0 0 0=some ⟨x,l,d,k⟩) (hk:k≠nh) (w:World)
  (hrh:Rd w Ah (eB hs)) (hrf:Rd w Af (fl.map bv)):
  Calls prog 51 #[.agg (qG tot Ah nh ch Af nf cf).toArray] w (mO w none):=by
 refine Xm14 ?_;intro _u hz T hT1 G hG W hW bW aT aG hGw hzone sW c0 c1 c2
 refine Xm125 ?_;intro hd8 hkn xv xone xb
 have tk:((k:Int)!=(nh:Int))=true:=by simp;omega
 replace hk:=Hy hk
 have may:tot≠0∧tot≤4096∧nh≤tot∧nh≤8*nf:=by
  rw[← hnh,← hnf]
  exact of_decide_eq_true hm
 have ht0:0<tot:=by omega
 have ht:tot≤4096:=may.2.1
 have t0:((tot:Int)==0)=false:=by simp;omega
 have t1:decide ((4096:Int)<(tot:Int))=false:=decide_eq_false OM
 have t2:decide ((tot:Int)<(nh:Int))=false:=decide_eq_false OM
 have t3:decide (8*(nf:Int)<(nh:Int))=false:=decide_eq_false OM
 have h2n:¬ (tot<nh):=by omega
 have h3n:¬ (8*nf<nh):=by omega
 have w8:IntKind.i64.wrap (8*(nf:Int))=8*(nf:Int):=by rw[IntKind.wrap_i64];omega
 have wt:IntKind.i64.wrap (tot:Int)=(tot:Int):=by rw[IntKind.wrap_i64];omega
 obtain⟨R,hR⟩:=Nm (W.heap.size)
 obtain⟨W2,hW2⟩:=Nm (W.alloc (.cells (pV tot Ah nh ch Af nf cf 0 0 (.slice none 0 0) false).toArray 178))
 have bW2:Below W.heap.size W W2:=by rw[hW2];exact(Below.refl _ _).alloc LR _
 have aR2:Av W2 R 178 (pV tot Ah nh ch Af nf cf 0 0 (.slice none 0 0) false):=by rw[hW2,hR];exact heap_alloc_new _ _
 have aT2:=aT.b bW2
 have aG2:=aG.b bW2
 have b2:=bW.trans (bW2.mono bW.size)
 have hRw:w.heap.size≤R:=by omega
 have hTR:T≠R:=by omega
 have hGR:G≠R:=by omega
 have hTG:T≠G:=by omega
 have hTw:w.heap.size≤T:=by omega
 obtain⟨q1,q2,q3⟩:=xU tot ht
 have HHt:=fun w'=>MZ tot (xT tot) q1 (fun j hj=>by rw[qW tot j ht OM];have:=q2 j hj;omega) (by rw[qW tot _ ht q1];omega) w'
 have HV:=Pr fl hs h32 tot Ah nh ch Af nf cf R hnh hnf hnf2 hnh2 ht0 ht w hrh hrf hRw (xT tot) q1 0 0 0 (Ng tot ht0) OM OM [] LR (.slice none 0 0) W2 b2 aR2 (World.ownsRow_nil _ _ _ _)
 rw[hrd] at HV
 generalize xT tot=hgt at*
 have hbl:=Ip tot Ah nh ch Af nf cf
 have c3:=aR2.cell 3 _ rfl
 replace HHt:=Hy HHt
 replace HV:=Hy HV
 replace hm:=Hy hm
 replace hrd:=Hy hrd
 replace may:=Hy may
 replace hR:=Hy hR
 replace hW2:=Hy hW2
 replace hbl:=Hy hbl
 replace q2:=Hy q2
 replace hW:=Hy hW
 replace hT1:=Hy hT1
 replace hG:=Hy hG
 replace hzone:=Hy hzone
 replace hnh:=Hy hnh
 replace hnf:=Hy hnf
 replace sW:=Hy sW
 clear _u
 go_enter func51,ntmps51
 go_upto_region 1 with fail
 rw[← hT1.out]
 rw[show T+1=G by rw[hT1.out,hG.out]]
 rw[← hW.out]
 go_upto_region 4 with (first
  |((with_reducible refine LH aT 3 underlying137 ?_ ?_);rfl)
  |fail)
 rw[show W.alloc (.cells #[Value.int .u32 (tot:Int),Value.slice Ah nh ch,Value.slice Af nf cf,Value.int .i64 (tot:Int),Value.int .i64 0,Value.int .i64 0,Value.slice none 0 0,Value.bool false] 178)=W2 from hW2.out.symm,← hR.out]
 go_wp2_with (go_at_call 75;refine(HHt.out _).mono ?_;rintro e w' ⟨rfl,hw'⟩;obtain rfl:=hw'.symm)
 refine HV.out.mono ?_
 rintro e w3 ⟨b3,K3,rfl,M3,a3,o3⟩
 rw[List.length_nil,Nat.zero_add,List.nil_append] at o3
 dsimp only at o3 a3
 have oR:=eM o3 a3 DC
 obtain⟨A3,cA,rfl,hcA,_⟩:=cM o3
 have hAw:∀ a,A3=some a→w.heap.size≤a.block:=fun a e=>(World.ownsRow.lt o3 a.block (by rw[e];rfl)).1
 have hAR:∀ a,A3=some a→a.block≠R:=fun a e h=>oR (by rw[e,← h];rfl)
 have hAG:∀ a,A3=some a→a.block≠G:=fun a e h=>by
  have h1:=hAw a e
  exact eM o3 (K3.av aG2 DC hGR) DC (by rw[e,← h];rfl)
 have rl3:=fV o3
 have hAlt:∀ a,A3=some a→a.block<w3.heap.size:=fun a e=>(World.ownsRow.lt o3 a.block (by rw[e];rfl)).2
 have t3':=K3.av aT2 DC hTR
 have g3:=K3.av aG2 DC hGR
 replace hAw:=Hy hAw
 replace hAR:=Hy hAR
 replace hAG:=Hy hAG
 replace hAlt:=Hy hAlt
 clear c0 c1 c2 c3 aT2 aG2 aR2 bW2 HV HHt o3 oR K3
 go_upto_region 5 with ((with_reducible refine bF 35 (b3.alloc b3.size (.cells (bV.map bv).toArray 35)) (heap_alloc_new _ _) b3.size (x.map bv) ?_ ?_ 32 xv.out ?_ ?_ ?_ ?_);rfl;rfl;kernel_rfl;rfl;exact xone.out;intro w4 x4 b4 k4 z4)
 have hsz4:w3.heap.size<w4.heap.size:=x4.lt
 have hR3:=a3.lt
 have hT3:=t3'.lt
 have hG3:=g3.lt
 have a4:=(a3.alloc (.cells (bV.map bv).toArray 35)).same (k4 R OM)
 have t4':=(t3'.alloc (.cells (bV.map bv).toArray 35)).same (k4 T OM)
 have g4:=(g3.alloc (.cells (bV.map bv).toArray 35)).same (k4 G OM)
 refine ZR ?_
 refine ZM ?_
 refine ZQ ?_
 refine ZQ ?_
 refine ZP (c:=.bool false) (fun w hw=>by have:=(a4.b hw.drew).cell 7 _ rfl;go_simp;first|done|rfl) ?_
 refine ZM ?_
 refine ZM ?_
 refine ZQ ?_
 refine ZQ ?_
 refine ZP (c:=.int .i64 (k:Int)) (fun w hw=>by have:=(a4.b hw.drew).cell 5 _ rfl;go_simp;first|done|rfl) ?_
 refine ZQ ?_
 refine ZP (c:=.slice Ah nh ch) (fun w hw=>by have:=(t4'.b hw.drew).cell 1 _ rfl;go_simp;first|done|rfl) ?_
 refine ZQ ?_
 refine ZP (c:=.bool true) vR ?_
 refine nJ cI.refl rfl rfl rfl rfl _ _ _ rfl rfl (c:=.bool true) rfl zZ ?_
 refine ZM ?_
 refine ZS ?_
 refine ZS ?_
 refine ZS ?_
 refine ZS ?_
 refine ZS ?_
 refine ZS ?_
 refine ZS ?_
 refine ZS ?_
 refine ZS ?_
 refine ZS ?_
 refine nJ cI.refl rfl rfl rfl rfl _ _ _ rfl rfl (c:=.bool true) rfl zZ ?_
 refine ZM ?_
 refine bO fun w5 hw5=>aF ?_
 have e5:=hw5.drew
 have g5:=g4.b e5
 have b5:=b4.trans (e5.mono b4.size)
 go_wp2
 go_loopw [7] (fun b wr=>∃ c:Nat,c=0∧b= .bool true∧Below w.heap.size w wr∧Av wr G 35 (bV.map bv)) (fun _ _=>0)
 case atStart=>exact⟨0,rfl,rfl,b5,g5⟩
 case round=>
  clear b5 g5
  obtain⟨_,_,rfl,b5,g5⟩:=hrel
  exact Xc20
theorem Ni (fl:List UInt8) (hs:List (List UInt8)) (h32:dV hs) (tot:Nat) (Ah:Option Addr) (nh ch:Nat) (Af:Option Addr) (nf cf:Nat) (hnh:hs.length=nh) (hnf:fl.length=nf) (htb:tot<4294967296) (hnf2:nf≤10000) (hnh2:nh≤10000) (hm:vP tot hs fl=true) (x:List UInt8) (l:List (Nat × List UInt8)) (d k:Nat) (hrd:nW tot fl hs (xT tot) 0 0 0=some ⟨x,l,d,k⟩) (hk:k=nh) (ans:Option kG) (hans:ans=if (d+7) / 8=nf∧qV fl d=true then some ⟨x,l,d,k⟩ else none) (w:World)
  (hrh:Rd w Ah (eB hs)) (hrf:Rd w Af (fl.map bv)):
  Calls prog 51 #[.agg (qG tot Ah nh ch Af nf cf).toArray] w (mO w ans):=by
 refine Xm14 ?_;intro _u hz T hT1 G hG W hW bW aT aG hGw hzone sW c0 c1 c2
 refine Xm125 ?_;intro hd8 hkn xv xone xb
 have tk:((k:Int)!=(nh:Int))=false:=by simp;omega
 obtain⟨s,hs7⟩:=Nm ((d+7) / 8)
 have hs8:((d:Int)+7) / 8=(s:Int):=by omega
 have wd:IntKind.i64.wrap ((d:Int)+7)=(d:Int)+7:=by rw[IntKind.wrap_i64];omega
 have ws:IntKind.i64.wrap (((d:Int)+7).tdiv 8)=(s:Int):=by rw[Int.tdiv_eq_ediv_of_nonneg OM,IntKind.wrap_i64];omega
 obtain⟨q,hq⟩:=Nm (((s:Int)!=(nf:Int)))
 have hbeg:ans=if q then none else if Cd fl nf d then some ⟨x,l,d,k⟩ else none:=by
  rw[hans,hq]
  by_cases e:s=nf
  ·have e1:((s:Int)!=(nf:Int))=false:=by simp;omega
   rw[e1,Ir fl nf d OM]
   cases qV fl d <;> simp <;> omega
  ·have e1:((s:Int)!=(nf:Int))=true:=by simp;omega
   rw[e1,if_neg OM]
   rfl
 have hq':=hq.symm
 have hNX:=fun (c:Nat) (b:Bool) (h:fX fl c=some b) (hc:c≤1000000) (w':World)=>fun M R'=>sH fl b tot Ah nh ch Af nf cf c k R' M false hnf hnf2 h hc w'
 replace hans:=Hy hans
 replace hs7:=Hy hs7
 replace hq:=Hy hq
 replace hbeg:=Hy hbeg
 replace hNX:=Hy hNX
 replace hk:=Hy hk
 have may:tot≠0∧tot≤4096∧nh≤tot∧nh≤8*nf:=by
  rw[← hnh,← hnf]
  exact of_decide_eq_true hm
 have ht0:0<tot:=by omega
 have ht:tot≤4096:=may.2.1
 have t0:((tot:Int)==0)=false:=by simp;omega
 have t1:decide ((4096:Int)<(tot:Int))=false:=decide_eq_false OM
 have t2:decide ((tot:Int)<(nh:Int))=false:=decide_eq_false OM
 have t3:decide (8*(nf:Int)<(nh:Int))=false:=decide_eq_false OM
 have h2n:¬ (tot<nh):=by omega
 have h3n:¬ (8*nf<nh):=by omega
 have w8:IntKind.i64.wrap (8*(nf:Int))=8*(nf:Int):=by rw[IntKind.wrap_i64];omega
 have wt:IntKind.i64.wrap (tot:Int)=(tot:Int):=by rw[IntKind.wrap_i64];omega
 obtain⟨R,hR⟩:=Nm (W.heap.size)
 obtain⟨W2,hW2⟩:=Nm (W.alloc (.cells (pV tot Ah nh ch Af nf cf 0 0 (.slice none 0 0) false).toArray 178))
 have bW2:Below W.heap.size W W2:=by rw[hW2];exact(Below.refl _ _).alloc LR _
 have aR2:Av W2 R 178 (pV tot Ah nh ch Af nf cf 0 0 (.slice none 0 0) false):=by rw[hW2,hR];exact heap_alloc_new _ _
 have aT2:=aT.b bW2
 have aG2:=aG.b bW2
 have b2:=bW.trans (bW2.mono bW.size)
 have hRw:w.heap.size≤R:=by omega
 have hTR:T≠R:=by omega
 have hGR:G≠R:=by omega
 have hTG:T≠G:=by omega
 have hTw:w.heap.size≤T:=by omega
 obtain⟨q1,q2,q3⟩:=xU tot ht
 have HHt:=fun w'=>MZ tot (xT tot) q1 (fun j hj=>by rw[qW tot j ht OM];have:=q2 j hj;omega) (by rw[qW tot _ ht q1];omega) w'
 have HV:=Pr fl hs h32 tot Ah nh ch Af nf cf R hnh hnf hnf2 hnh2 ht0 ht w hrh hrf hRw (xT tot) q1 0 0 0 (Ng tot ht0) OM OM [] LR (.slice none 0 0) W2 b2 aR2 (World.ownsRow_nil _ _ _ _)
 rw[hrd] at HV
 generalize xT tot=hgt at*
 have hbl:=Ip tot Ah nh ch Af nf cf
 have c3:=aR2.cell 3 _ rfl
 replace HHt:=Hy HHt
 replace HV:=Hy HV
 replace hm:=Hy hm
 replace hrd:=Hy hrd
 replace may:=Hy may
 replace hR:=Hy hR
 replace hW2:=Hy hW2
 replace hbl:=Hy hbl
 replace q2:=Hy q2
 replace hW:=Hy hW
 replace hT1:=Hy hT1
 replace hG:=Hy hG
 replace hzone:=Hy hzone
 replace hnh:=Hy hnh
 replace hnf:=Hy hnf
 replace sW:=Hy sW
 clear _u
 go_enter func51,ntmps51
 go_upto_region 1 with fail
 rw[← hT1.out]
 rw[show T+1=G by rw[hT1.out,hG.out]]
 rw[← hW.out]
 go_upto_region 4 with (first
  |((with_reducible refine LH aT 3 underlying137 ?_ ?_);rfl)
  |fail)
 rw[show W.alloc (.cells #[Value.int .u32 (tot:Int),Value.slice Ah nh ch,Value.slice Af nf cf,Value.int .i64 (tot:Int),Value.int .i64 0,Value.int .i64 0,Value.slice none 0 0,Value.bool false] 178)=W2 from hW2.out.symm,← hR.out]
 go_wp2_with (go_at_call 75;refine(HHt.out _).mono ?_;rintro e w' ⟨rfl,hw'⟩;obtain rfl:=hw'.symm)
 refine HV.out.mono ?_
 rintro e w3 ⟨b3,K3,rfl,M3,a3,o3⟩
 rw[List.length_nil,Nat.zero_add,List.nil_append] at o3
 dsimp only at o3 a3
 have oR:=eM o3 a3 DC
 obtain⟨A3,cA,rfl,hcA,_⟩:=cM o3
 have hAw:∀ a,A3=some a→w.heap.size≤a.block:=fun a e=>(World.ownsRow.lt o3 a.block (by rw[e];rfl)).1
 have hAR:∀ a,A3=some a→a.block≠R:=fun a e h=>oR (by rw[e,← h];rfl)
 have hAG:∀ a,A3=some a→a.block≠G:=fun a e h=>by
  have h1:=hAw a e
  exact eM o3 (K3.av aG2 DC hGR) DC (by rw[e,← h];rfl)
 have rl3:=fV o3
 have hAlt:∀ a,A3=some a→a.block<w3.heap.size:=fun a e=>(World.ownsRow.lt o3 a.block (by rw[e];rfl)).2
 have t3':=K3.av aT2 DC hTR
 have g3:=K3.av aG2 DC hGR
 replace hAw:=Hy hAw
 replace hAR:=Hy hAR
 replace hAG:=Hy hAG
 replace hAlt:=Hy hAlt
 clear c0 c1 c2 c3 aT2 aG2 aR2 bW2 HV HHt o3 oR K3
 go_upto_region 5 with ((with_reducible refine bF 35 (b3.alloc b3.size (.cells (bV.map bv).toArray 35)) (heap_alloc_new _ _) b3.size (x.map bv) ?_ ?_ 32 xv.out ?_ ?_ ?_ ?_);rfl;rfl;kernel_rfl;rfl;exact xone.out;intro w4 x4 b4 k4 z4)
 have hsz4:w3.heap.size<w4.heap.size:=x4.lt
 have hR3:=a3.lt
 have hT3:=t3'.lt
 have hG3:=g3.lt
 have a4:=(a3.alloc (.cells (bV.map bv).toArray 35)).same (k4 R OM)
 have t4':=(t3'.alloc (.cells (bV.map bv).toArray 35)).same (k4 T OM)
 have g4:=(g3.alloc (.cells (bV.map bv).toArray 35)).same (k4 G OM)
 refine ZR ?_
 refine ZM ?_
 refine ZQ ?_
 refine ZQ ?_
 refine ZP (c:=.bool false) (fun w hw=>by have:=(a4.b hw.drew).cell 7 _ rfl;go_simp;first|done|rfl) ?_
 refine ZM ?_
 refine ZM ?_
 refine ZQ ?_
 refine ZQ ?_
 refine ZP (c:=.int .i64 (k:Int)) (fun w hw=>by have:=(a4.b hw.drew).cell 5 _ rfl;go_simp;first|done|rfl) ?_
 refine ZQ ?_
 refine ZP (c:=.slice Ah nh ch) (fun w hw=>by have:=(t4'.b hw.drew).cell 1 _ rfl;go_simp;first|done|rfl) ?_
 refine ZQ ?_
 refine ZP (c:=.bool false) vR ?_
 refine nJ cI.refl rfl rfl rfl rfl _ _ _ rfl rfl (c:=.bool false) rfl zZ ?_
 refine ZM ?_
 refine ZM ?_
 refine ZQ ?_
 refine ZQ ?_
 refine ZP (c:=.int .i64 (d:Int)) (fun w hw=>by have:=(a4.b hw.drew).cell 4 _ rfl;go_simp;first|done|rfl) ?_
 refine ZP (c:=.int .i64 ((d:Int)+7)) (fun w hw=>by have:=wd;go_simp;first|done|rfl) ?_
 refine ZP (c:=.int .i64 (s:Int)) (fun w hw=>by have:=ws;go_simp;first|done|rfl) ?_
 refine ZQ ?_
 refine ZP (c:=.slice Af nf cf) (fun w hw=>by have:=(t4'.b hw.drew).cell 2 _ rfl;go_simp;first|done|rfl) ?_
 refine ZQ ?_
 refine ZP (c:=.bool q) vR ?_
 refine nJ cI.refl rfl rfl rfl rfl _ _ _ rfl rfl (c:=.bool q) rfl zZ ?_
 refine ZM ?_
 refine bO fun w5 hw5=>aF ?_
 have e5:=hw5.drew
 have g5:=g4.b e5
 have a5:=a4.b e5
 have t5:=t4'.b e5
 have x5:=x4.b e5
 have b5:=b4.trans (e5.mono b4.size)
 have rl5:=((rl3.b ((Below.refl w3.heap.size w3).alloc LR (.cells (bV.map bv).toArray 35))).setO (fun a ha=>k4 a.block (by have:=hAlt.out a ha;omega))).b e5
 obtain⟨Hx,hHx⟩:=Nm (w3.heap.size)
 rw[← hHx] at x5 ⊢
 have hHR:Hx≠R:=by rw[hHx];omega
 have hHG:Hx≠G:=by rw[hHx];omega
 replace hHx:=Hy hHx
 clear a4 t4' g4 b4 k4 z4 hw5 e5 x4 a3 t3' g3 b3 rl3
 go_wp2
 go_loopw [7] (fun b wr=>∃ (c:Nat) (g:Bool),d≤c∧c≤8*nf∧b= .bool g∧(ans=if g then none else if Cd fl nf c then some ⟨x,l,d,k⟩ else none)∧Below w.heap.size w wr∧Av wr G 35 (bV.map bv)∧Av wr Hx 35 (x.map bv)∧Av wr T 137 (qG tot Ah nh ch Af nf cf)∧Av wr R 178 (pV tot Ah nh ch Af nf cf c k (.slice A3 l.length cA) false)∧Rd wr A3 (rX l)) (fun _ wr=>8*nf - uG wr ⟨R,4,none⟩)
 case atStart=>exact⟨d,q,Nat.le_refl _,hd8,rfl,hbeg.out,b5,g5,x5,t5,a5,rl5⟩
 case round=>
  clear b5 g5 x5 t5 a5 rl5
  obtain⟨c,g,fC,hc8,rfl,hh,b5,g5,x5,t5,a5,rl5⟩:=hrel
  replace hh:=Hy hh
  cases g with
  |true=>
   have hh2:ans=none:=hh.out
   subst hh2
   exact Xc20
  |false=>
   by_cases hlt:c<8*nf
   ·have tl:decide ((c:Int)<8*(nf:Int))=true:=by simp;omega
    obtain⟨dg,hdg⟩:∃ dg,fX fl c=some dg:=⟨_,nF (by rw[hnf.out];exact hlt)⟩
    have hNX2:=fun w'=>hNX.out c dg hdg OM w' (.slice A3 l.length cA) R
    have hst:=Iq fl nf c dg hlt hdg
    replace hst:=Hy hst
    replace hdg:=Hy hdg
    replace hNX2:=Hy hNX2
    go_wp2_with fail
    refine ZR ?_
    refine ZM ?_
    refine ZP (c:=.bool true) vR ?_
    refine ZM ?_
    refine ZM ?_
    refine ZQ ?_
    refine ZQ ?_
    refine ZP (c:=.int .i64 (c:Int)) (fun w hw=>by have:=(a5.b hw.drew).cell 4 _ rfl;go_simp;first|done|rfl) ?_
    refine ZQ ?_
    refine ZP (c:=.slice Af nf cf) (fun w hw=>by have:=(t5.b hw.drew).cell 2 _ rfl;go_simp;first|done|rfl) ?_
    refine ZQ ?_
    refine ZP (c:=.int .i64 (8*(nf:Int))) vR ?_
    refine ZP (c:=.bool true) vR ?_
    refine nJ cI.refl rfl rfl rfl rfl _ _ _ rfl rfl (c:=.bool true) rfl zZ ?_
    refine bO fun w6 hw6=>aF ?_
    have e6:=hw6.drew
    have b6:=b5.trans (e6.mono b5.size)
    have a6:=a5.b e6
    go_wp2_with (go_at_call 76;refine(hNX2.out w6 a6 (hrf.b b6)).mono ?_;rintro e w7 ⟨rfl,a7,f7⟩)
    have hm7:uG w7 ⟨R,4,none⟩=c+1:=by rw[yI (a7.cell 4 _ rfl)];omega
    go_roundw
    case rel=>exact⟨c+1,dg,by omega,by omega,rfl,by
     have:=hh.out
     rw[hst.out] at this
     cases dg
     ·exact this
     ·exact this,b6.trans (f7.b (fun j h=>by rw[h];exact hRw) b6.size),f7.av (g5.b e6) hGR,f7.av (x5.b e6) hHR,f7.av (t5.b e6) hTR,a7,f7.rd (rl5.b e6) hAR.out⟩
    case measure=>
     rw[hm7]
     have:uG wr ⟨R,4,none⟩=c:=by rw[yI (a5.cell 4 _ rfl)];simp
     omega
   ·have tl:decide ((c:Int)<8*(nf:Int))=false:=by simp;omega
    have hh2:ans=some ⟨x,l,d,k⟩:=by
     rw[hh.out,KX fl nf c OM]
     rfl
    subst hh2
    go_wp2_with fail
    refine ZR ?_
    refine ZM ?_
    refine ZP (c:=.bool true) vR ?_
    refine ZM ?_
    refine ZM ?_
    refine ZQ ?_
    refine ZQ ?_
    refine ZP (c:=.int .i64 (c:Int)) (fun w hw=>by have:=(a5.b hw.drew).cell 4 _ rfl;go_simp;first|done|rfl) ?_
    refine ZQ ?_
    refine ZP (c:=.slice Af nf cf) (fun w hw=>by have:=(t5.b hw.drew).cell 2 _ rfl;go_simp;first|done|rfl) ?_
    refine ZQ ?_
    refine ZP (c:=.int .i64 (8*(nf:Int))) vR ?_
    refine ZP (c:=.bool false) vR ?_
    refine nJ cI.refl rfl rfl rfl rfl _ _ _ rfl rfl (c:=.bool false) rfl zZ ?_
    refine bO fun w6 hw6=>aF ?_
    have e6:=hw6.drew
    have b6:=b5.trans (e6.mono b5.size)
    have a6:=a5.b e6
    have g6:=g5.b e6
    have x6:=x5.b e6
    have rl6:=rl5.b e6
    go_wp2
    refine eH 6 [] [(5,fun w'=>Av w' G 35 (x.map bv))] (RS G 35 (x.map bv)) KR KR KR KR KR KR (fun w=>RS.refl w) RS.trans zI (by
     intro p hp w w' hR h
     simp only[List.mem_singleton] at hp
     subst hp
     exact hR.2.1 h) ?_
    refine rU (fun w=>RS.refl w) rfl (cT (fun w=>RS.refl w) rfl rfl rfl rfl (c:=.agg (cK x)) (fun w hw=>aE (hw.1.av x6.drew hHG) _ _ rfl rfl _ 32 xv.out SS rfl KR) zZ (jC ?_))
    refine rU (fun w=>RS.refl w) rfl (vT (fun w=>RS.refl w) rfl rfl rfl rfl _ (.inl rfl) pB zZ (jC ?_))
    refine rU (fun w=>RS.refl w) rfl (cT (fun w=>RS.refl w) rfl rfl rfl rfl vR zZ (jC ?_))
    refine rU (fun w=>RS.refl w) rfl (cT (fun w=>RS.refl w) rfl rfl rfl rfl vR zZ (jC ?_))
    refine rU (fun w=>RS.refl w) rfl (cT (fun w=>RS.refl w) rfl rfl rfl rfl (c:=.slice A3 l.length cA) (fun w hw=>by have:=(hw.1.av a6.drew (Ne.symm hGR)).cell 6 _ rfl;go_simp;first|done|rfl) zZ (jC ?_))
    refine pJ rfl rfl (fun w hw=>fY (C:=x.map bv) g6.drew (by rw[xv.out];rfl) hw _ _ _ rfl rfl rfl 32 xv.out KR xone.out 5) ?_
    refine mG fun w7 hw7 hg=>?_
    simp only[List.drop_succ_cons,List.drop_zero]
    have g7:=hg (5,fun w'=>Av w' G 35 (x.map bv)) (List.mem_singleton.2 rfl)
    have f7:=Fr.ofDrew hw7.1
    go_wp2
    refine bodyPost_ret (v:=.tuple #[.agg (cK x),.slice A3 l.length cA,.int .i64 0]) ((cC (C:=x.map bv) bM bM g7 _ SS rfl 32 xv.out KR).trans bM) bM ?_
    exact⟨b6.trans (f7.b (fun j h=>by rw[h];exact hGw) b6.size),A3,cA,rfl,hcA,hAw.out,f7.rd rl6 hAG.out⟩
theorem KY (fl:List UInt8) (hs:List (List UInt8)) (h32:dV hs) (tot:Nat) (Ah:Option Addr) (nh ch:Nat) (Af:Option Addr) (nf cf:Nat) (hnh:hs.length=nh) (hnf:fl.length=nf) (htb:tot<4294967296) (hnf2:nf≤10000) (hnh2:nh≤10000)  (w:World)
  (hrh:Rd w Ah (eB hs)) (hrf:Rd w Af (fl.map bv)):
  Calls prog 51 #[.agg (qG tot Ah nh ch Af nf cf).toArray] w (mO w (kJ tot hs fl)):=by
 cases hm:vP tot hs fl with
 |false=>
  rw[show kJ tot hs fl=none by rw[kJ,hm];rfl]
  exact QP fl hs h32 tot Ah nh ch Af nf cf hnh hnf htb hnf2 hnh2 hm w hrh hrf
 |true=>
  cases hrd:nW tot fl hs (xT tot) 0 0 0 with
  |none=>
   rw[show kJ tot hs fl=none by rw[kJ,hm,hrd];rfl]
   exact Pw fl hs h32 tot Ah nh ch Af nf cf hnh hnf htb hnf2 hnh2 hm hrd w hrh hrf
  |some r=>
   obtain⟨x,l,d,k⟩:=r
   have e1:kJ tot hs fl=if sF hs fl d k then some ⟨x,l,d,k⟩ else none:=by
    rw[kJ,hm,hrd,if_pos rfl,Option.filter_some]
   by_cases hk:k=nh
   ·refine Ni fl hs h32 tot Ah nh ch Af nf cf hnh hnf htb hnf2 hnh2 hm x l d k hrd hk _ ?_ w hrh hrf
    rw[e1,sF,hnh,hnf]
    by_cases h1:(d+7) / 8=nf
    ·simp[hk,h1]
    ·simp[h1]
   ·rw[e1,show sF hs fl d k=false by rw[sF,hnh];simp[hk],if_neg zS]
    exact Nh fl hs h32 tot Ah nh ch Af nf cf hnh hnf htb hnf2 hnh2 hm x l d k hrd hk w hrh hrf
theorem Sb (x y:List UInt8) (hx:x.length=32) (hy:y.length=32) (w:World):(binOp .neq 35 (.agg (cK x)) (.agg (cK y))).run prog w= .ok (.bool (!(x==y))) w:=by
 have h:=run_equalIn_bytes w 9998 35 5 32 SS Tl mQ x y hx hy
 rw[run_neq_struct]
 rw[show cK x=(x.map bv).toArray from rfl,show cK y=(y.map bv).toArray from rfl]
 exact(congrArg (fun r:Result Bool=>r.andThen fun b w'=>.ok (Value.bool (!b)) w') h)
theorem Ck {α:Type} (a b:List α) (d:α) (k:Nat) (ha:k<a.length) (hb:k<b.length) (h:a.take k=b.take k) (hd:a.getD k d=b.getD k d):a.take (k+1)=b.take (k+1):=by
 rw[List.take_add_one,List.take_add_one,h]
 simp only[List.getD_eq_getElem?_getD,List.getElem?_eq_getElem ha,List.getElem?_eq_getElem hb,Option.getD_some] at hd ⊢
 rw[hd]
theorem QW (a b:List (List UInt8)) (ha:dV a) (hb:dV b) (A B:Option Addr) (n m ca cb:Nat) (hna:a.length=n) (hnb:b.length=m) (hn:n≤100000) (hm:m≤100000) (w:World) (ra:Rd w A (eB a)) (rb:Rd w B (eB b)):
  Calls prog 54 #[.slice A n ca,.slice B m cb] w fun e w'=>e= .returned (.bool (a==b))∧Below w.heap.size w w':=by
 by_cases hnm:n=m
 ·subst hnm
  replace hna:=Hy hna
  replace hnb:=Hy hnb
  go_enter func54,ntmps54
  go_wp2
  go_loopw [5] (fun i wr=>∃ k:Nat,k≤n∧i= .int .i64 (k:Int)∧Hid (a.take k=b.take k)∧Below w.heap.size w wr) (fun i _=>n - (intOf i).toNat)
  case atStart=>exact⟨0,by omega,rfl,Hy zS,Below.refl _ _⟩
  case round=>
   obtain⟨k,hk,rfl,htk,hbw⟩:=hrel
   by_cases hlt:k<n
   ·have t1:decide ((k:Int)<(n:Int))=true:=by simp;omega
    obtain⟨ba,oa,rfl⟩:=ra.someA (uV ha (by rw[hna.out];omega))
    obtain⟨bb,ob,rfl⟩:=rb.someA (uV hb (by rw[hnb.out];omega))
    obtain⟨x,hx⟩:=Nm (a.getD k [])
    obtain⟨y,hy⟩:=Nm (b.getD k [])
    have hx32:x.length=32:=by rw[hx];exact ha.get _ (by rw[hna.out];omega)
    have hy32:y.length=32:=by rw[hy];exact hb.get _ (by rw[hnb.out];omega)
    have hrx:=Hy (fun w' (hE:Below w.heap.size w w')=>hx ▸ (ra.b hE).hash ha k (by rw[hna.out];omega))
    have hry:=Hy (fun w' (hE:Below w.heap.size w w')=>hy ▸ (rb.b hE).hash hb k (by rw[hnb.out];omega))
    have heq:=Sb x y hx32 hy32
    obtain⟨q,hq⟩:=Nm ((x==y))
    rw[← hq] at heq
    have n0:0≤(k:Int):=by omega
    have n1:(k:Int)<(n:Int):=by omega
    replace hx:=Hy hx
    replace hy:=Hy hy
    replace hq:=Hy hq
    go_wp2_with fail
    have H1:∀ w',cI wr.drew w'→Below w.heap.size w w':=fun w' hE=>hbw.trans (hE.drew.mono hbw.size)
    refine ZR ?_
    repeat first|refine ZQ ?_|refine ZP (c:=.agg (cK x)) (fun w hw=>bJ _ _ rfl ba (oa+k*32) rfl (x.map bv) _ (hrx.out w (H1 w hw)) SS rfl (by rw[List.length_map,hx32];kernel_rfl)) ?_|refine ZP (c:=.agg (cK y)) (fun w hw=>bJ _ _ rfl bb (ob+k*32) rfl (y.map bv) _ (hry.out w (H1 w hw)) SS rfl (by rw[List.length_map,hy32];kernel_rfl)) ?_
    refine bO fun w2 hw2=>aF ?_
    have hb2:=H1 w2 hw2
    cases q
    ·go_wp2
     go_ret
     refine⟨?_,hb2⟩
     have hne:x≠y:=by have:=hq.out;intro e;rw[e] at this;simp at this
     have:(a==b)=false:=by
      rw[beq_eq_false_iff_ne]
      intro e
      exact hne (by rw[hx.out,hy.out,e])
     rw[this]
     rfl
    ·go_wp2
     refine⟨⟨k+1,by omega,by go_num,Hy ?_,hb2⟩,?_⟩
     ·exact Ck a b [] k (by rw[hna.out];omega) (by rw[hnb.out];omega) htk.out (by rw[← hx.out,← hy.out];exact eq_of_beq hq.out.symm)
     ·simp[intOf];omega
   ·obtain rfl:k=n:=by omega
    have t1:decide ((k:Int)<(k:Int))=false:=by simp
    go_wp2
    go_ret
    refine⟨?_,hbw⟩
    have h:=htk.out
    rw[List.take_of_length_le (by rw[hna.out];omega),List.take_of_length_le (by rw[hnb.out];omega)] at h
    rw[h,beq_self_eq_true]
    rfl
 ·have t1:((n:Int)!=(m:Int))=true:=by simp;omega
  have hf:(a==b)=false:=by
   rw[beq_eq_false_iff_ne]
   intro e
   exact hnm (by rw[← hna,← hnb,e])
  rw[hf]
  replace hna:=Hy hna
  replace hnb:=Hy hnb
  replace hf:=Hy hf
  go_enter func54,ntmps54
  go_wp2
  go_ret
  exact⟨rfl,Below.refl _ _⟩
end Go.Proofs.YtobjgebojhjhnaaGreatDoor
